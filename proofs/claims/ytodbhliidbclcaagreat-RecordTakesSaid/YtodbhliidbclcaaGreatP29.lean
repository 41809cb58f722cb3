/-
Two rows of holes compared.
-/
import Derived.Test.YtodbhliidbclcaaGreatP28
set_option maxRecDepth 100000
set_option maxHeartbeats 16000000
namespace Go.Proofs.YtodbhliidbclcaaGreat
open Go.RowKit HG
theorem ho_take {l m:List Ho} {k:Nat} (h1:k<l.length) (h2:k<m.length) (h:l.take k=m.take k) (hc:l[k].c=m[k].c) (hn:l[k].n=m[k].n):l.take (k+1)=m.take (k+1):=by
 have he:l[k]=m[k]:=by
  revert hc hn
  generalize l[k]=x
  generalize m[k]=y
  intro hc hn
  cases x
  cases y
  simp only at hc hn
  rw [hc,hn]
 rw [List.take_succ_eq_append_getElem h1,List.take_succ_eq_append_getElem h2,h,he]
theorem ho_apart {l m:List Ho} {k:Nat} (h1:k<l.length) (h2:k<m.length) (h: ¬ (l[k].c=m[k].c∧l[k].n=m[k].n)):(false=true↔l=m):=by
 refine ⟨fun e=>(by cases e),fun e=> ?_⟩
 subst e
 exact absurd ⟨rfl,rfl⟩ h
theorem hsame_any (l m:List Ho) (a b:Option Addr) (ca cb:Nat) (w:World) (hl:Sl w (.slice a l.length ca) 2 (l.map Ho.cells)) (hm:Sl w (.slice b m.length cb) 2 (m.map Ho.cells)) (hn:l.length≤1000):
 Calls Tryz.prog 11 #[.slice a l.length ca, .slice b m.length cb] w fun e w' =>∃r:Bool,e= .returned (.bool r)∧(r=true↔l=m)∧Ext w w' :=by
 have HL:=Hm hl
 have HM:=Hm hm
 clear hl hm
 by_cases hlm:l.length=m.length
 case neg=>
  have hne:(((l.length:Nat):Int) !=((m.length:Nat):Int))=true:=by simp;omega
  have HN:=Hm hlm
  clear hlm
  go_enter Tryz.func11,Tryz.ntmps11
  go_wp2
  go_ret
  exact ⟨false,rfl,⟨fun e=>(by cases e),fun e=>absurd (congrArg List.length e) HN.out⟩,by exact eX⟩
 have hne:(((l.length:Nat):Int) !=((m.length:Nat):Int))=false:=by simp;omega
 have HN:=Hm hlm
 clear hlm
 go_enter Tryz.func11,Tryz.ntmps11
 go_wp2
 clear hne
 go_loopg [5] l.length (fun z i wr=>∃k:Nat,z+k=l.length∧i= .int .i64 k∧Hid (l.take k=m.take k)∧Hid (Ext w wr))
 case atStart=>exact ⟨0,by omega,rfl,Hm rfl,Hm (by exact eX)⟩
 case round=>
  obtain ⟨k,hzk,rfl,htk,hE⟩:=hrel
  by_cases hlt:k<l.length
  ·have hlt2:k<m.length:=by have:=HN.out;omega
   obtain ⟨b1,o1,rfl,hb1,hx1⟩:=HL.out.at_ (i:=k) (by simpa using hlt)
   obtain ⟨f0,f1⟩:=Ho.at_ hlt hx1 hb1 hE.out
   obtain ⟨b2,o2,rfl,hb2,hx2⟩:=HM.out.at_ (i:=k) (by simpa using hlt2)
   obtain ⟨g0,g1⟩:=Ho.at_ hlt2 hx2 hb2 hE.out
   have hbw1:b1<wr.heap.size:=Nat.lt_of_lt_of_le hb1 hE.out.size
   have hbw2:b2<wr.heap.size:=Nat.lt_of_lt_of_le hb2 hE.out.size
   have HT:=Hm (fun h1 h2=>ho_take hlt hlt2 htk.out h1 h2)
   have HA:=Hm (fun h=>ho_apart hlt hlt2 h)
   obtain ⟨x,hx⟩:∃x,x=l[k]:=⟨_,rfl⟩
   obtain ⟨y,hy⟩:∃y,y=m[k]:=⟨_,rfl⟩
   rw [←hx] at f0 f1 HT HA
   rw [←hy] at g0 g1 HT HA
   clear hx hy hx1 hx2 hb1 hb2
   obtain ⟨xc,xn⟩:=x
   obtain ⟨yc,yn⟩:=y
   simp only at f0 f1 g0 g1 HT HA
   by_cases hc:xc=yc
   ·subst hc
    by_cases hd:xn=yn
    ·subst hd
     have HT2:=Hm (HT.out rfl rfl)
     have hd2:(xn !=xn)=false:=by simp
     clear HT HA
     go_wp2
     refine wp_region_head 23 (fun w' =>Ext (wr) w'∧(∀b o,b<(wr).heap.size→w'.cell? ⟨b,o,none⟩=(wr).cell? ⟨b,o,none⟩)∧(∀b o,b<(wr).heap.size→w'.frozen? ⟨b,o,none⟩=(wr).frozen? ⟨b,o,none⟩)) (by kernel_rfl) (by decide) ?_
     have hA0:Hid ((fun w' =>Ext (wr) w'∧(∀b o,b<(wr).heap.size→w'.cell? ⟨b,o,none⟩=(wr).cell? ⟨b,o,none⟩)∧(∀b o,b<(wr).heap.size→w'.frozen? ⟨b,o,none⟩=(wr).frozen? ⟨b,o,none⟩)) wr.drew):=held_of (by exact eX)
     refine HG.on 0 17 hA0.out ?_
     try simp only [Act.put,List.setIfInBounds_toArray,List.set_cons_zero,List.set_cons_succ]
     refine HG.on 1 18 hA0.out ?_
     try simp only [Act.put,List.setIfInBounds_toArray,List.set_cons_zero,List.set_cons_succ]
     refine HG.on 2 19 hA0.out ?_
     try simp only [Act.put,List.setIfInBounds_toArray,List.set_cons_zero,List.set_cons_succ]
     refine HG.on 3 20 hA0.out ?_
     try simp only [Act.put,List.setIfInBounds_toArray,List.set_cons_zero,List.set_cons_succ]
     refine HG.on 4 21 hA0.out ?_
     try simp only [Act.put,List.setIfInBounds_toArray,List.set_cons_zero,List.set_cons_succ]
     refine HG.on 5 22 hA0.out ?_
     try simp only [Act.put,List.setIfInBounds_toArray,List.set_cons_zero,List.set_cons_succ]
     refine HG.on 6 23 hA0.out ?_
     try simp only [Act.put,List.setIfInBounds_toArray,List.set_cons_zero,List.set_cons_succ]
     refine HG.on 7 24 hA0.out ?_
     try simp only [Act.put,List.setIfInBounds_toArray,List.set_cons_zero,List.set_cons_succ]
     refine HG.on 8 25 hA0.out ?_
     try simp only [Act.put,List.setIfInBounds_toArray,List.set_cons_zero,List.set_cons_succ]
     refine HG.on 9 26 hA0.out ?_
     try simp only [Act.put,List.setIfInBounds_toArray,List.set_cons_zero,List.set_cons_succ]
     refine HG.on 10 27 hA0.out ?_
     try simp only [Act.put,List.setIfInBounds_toArray,List.set_cons_zero,List.set_cons_succ]
     refine HG.on 11 28 hA0.out ?_
     try simp only [Act.put,List.setIfInBounds_toArray,List.set_cons_zero,List.set_cons_succ]
     refine HG.on 12 29 hA0.out ?_
     try simp only [Act.put,List.setIfInBounds_toArray,List.set_cons_zero,List.set_cons_succ]
     refine HG.on 13 30 hA0.out ?_
     try simp only [Act.put,List.setIfInBounds_toArray,List.set_cons_zero,List.set_cons_succ]
     refine HG.on 14 31 hA0.out ?_
     try simp only [Act.put,List.setIfInBounds_toArray,List.set_cons_zero,List.set_cons_succ]
     refine HG.on 15 32 hA0.out ?_
     try simp only [Act.put,List.setIfInBounds_toArray,List.set_cons_zero,List.set_cons_succ]
     refine HG.on 16 33 hA0.out ?_
     try simp only [Act.put,List.setIfInBounds_toArray,List.set_cons_zero,List.set_cons_succ]
     refine HG.on 17 34 hA0.out ?_
     try simp only [Act.put,List.setIfInBounds_toArray,List.set_cons_zero,List.set_cons_succ]
     refine HG.on 18 35 hA0.out ?_
     try simp only [Act.put,List.setIfInBounds_toArray,List.set_cons_zero,List.set_cons_succ]
     refine HG.on 19 36 hA0.out ?_
     try simp only [Act.put,List.setIfInBounds_toArray,List.set_cons_zero,List.set_cons_succ]
     refine HG.on 20 37 hA0.out ?_
     try simp only [Act.put,List.setIfInBounds_toArray,List.set_cons_zero,List.set_cons_succ]
     refine HG.on 21 38 hA0.out ?_
     try simp only [Act.put,List.setIfInBounds_toArray,List.set_cons_zero,List.set_cons_succ]
     refine HG.on 22 39 hA0.out ?_
     try simp only [Act.put,List.setIfInBounds_toArray,List.set_cons_zero,List.set_cons_succ]
     refine wpHd_tail (by kernel_rfl) ?_
     simp only [List.drop_succ_cons,List.drop_zero]
     go_wp2
     go_roundg (l.length - (k+1))
     case measure=>omega
     case rel=>exact ⟨k+1,by omega,by go_num,HT2.out,Hm (by have hE:=hE.out;exact eX)⟩
    ·have HA2:=Hm (HA.out (fun h=>hd h.2))
     have hd2:(xn !=yn)=true:=by simpa using hd
     clear HT HA hd
     go_wp2
     refine wp_region_head 23 (fun w' =>Ext (wr) w'∧(∀b o,b<(wr).heap.size→w'.cell? ⟨b,o,none⟩=(wr).cell? ⟨b,o,none⟩)∧(∀b o,b<(wr).heap.size→w'.frozen? ⟨b,o,none⟩=(wr).frozen? ⟨b,o,none⟩)) (by kernel_rfl) (by decide) ?_
     have hA0:Hid ((fun w' =>Ext (wr) w'∧(∀b o,b<(wr).heap.size→w'.cell? ⟨b,o,none⟩=(wr).cell? ⟨b,o,none⟩)∧(∀b o,b<(wr).heap.size→w'.frozen? ⟨b,o,none⟩=(wr).frozen? ⟨b,o,none⟩)) wr.drew):=held_of (by exact eX)
     refine HG.on 0 17 hA0.out ?_
     try simp only [Act.put,List.setIfInBounds_toArray,List.set_cons_zero,List.set_cons_succ]
     refine HG.on 1 18 hA0.out ?_
     try simp only [Act.put,List.setIfInBounds_toArray,List.set_cons_zero,List.set_cons_succ]
     refine HG.on 2 19 hA0.out ?_
     try simp only [Act.put,List.setIfInBounds_toArray,List.set_cons_zero,List.set_cons_succ]
     refine HG.on 3 20 hA0.out ?_
     try simp only [Act.put,List.setIfInBounds_toArray,List.set_cons_zero,List.set_cons_succ]
     refine HG.on 4 21 hA0.out ?_
     try simp only [Act.put,List.setIfInBounds_toArray,List.set_cons_zero,List.set_cons_succ]
     refine HG.on 5 22 hA0.out ?_
     try simp only [Act.put,List.setIfInBounds_toArray,List.set_cons_zero,List.set_cons_succ]
     refine HG.on 6 23 hA0.out ?_
     try simp only [Act.put,List.setIfInBounds_toArray,List.set_cons_zero,List.set_cons_succ]
     refine HG.on 7 24 hA0.out ?_
     try simp only [Act.put,List.setIfInBounds_toArray,List.set_cons_zero,List.set_cons_succ]
     refine HG.on 8 25 hA0.out ?_
     try simp only [Act.put,List.setIfInBounds_toArray,List.set_cons_zero,List.set_cons_succ]
     refine HG.on 9 26 hA0.out ?_
     try simp only [Act.put,List.setIfInBounds_toArray,List.set_cons_zero,List.set_cons_succ]
     refine HG.on 10 27 hA0.out ?_
     try simp only [Act.put,List.setIfInBounds_toArray,List.set_cons_zero,List.set_cons_succ]
     refine HG.on 11 28 hA0.out ?_
     try simp only [Act.put,List.setIfInBounds_toArray,List.set_cons_zero,List.set_cons_succ]
     refine HG.on 12 29 hA0.out ?_
     try simp only [Act.put,List.setIfInBounds_toArray,List.set_cons_zero,List.set_cons_succ]
     refine HG.on 13 30 hA0.out ?_
     try simp only [Act.put,List.setIfInBounds_toArray,List.set_cons_zero,List.set_cons_succ]
     refine HG.on 14 31 hA0.out ?_
     try simp only [Act.put,List.setIfInBounds_toArray,List.set_cons_zero,List.set_cons_succ]
     refine HG.on 15 32 hA0.out ?_
     try simp only [Act.put,List.setIfInBounds_toArray,List.set_cons_zero,List.set_cons_succ]
     refine HG.on 16 33 hA0.out ?_
     try simp only [Act.put,List.setIfInBounds_toArray,List.set_cons_zero,List.set_cons_succ]
     refine HG.on 17 34 hA0.out ?_
     try simp only [Act.put,List.setIfInBounds_toArray,List.set_cons_zero,List.set_cons_succ]
     refine HG.on 18 35 hA0.out ?_
     try simp only [Act.put,List.setIfInBounds_toArray,List.set_cons_zero,List.set_cons_succ]
     refine HG.on 19 36 hA0.out ?_
     try simp only [Act.put,List.setIfInBounds_toArray,List.set_cons_zero,List.set_cons_succ]
     refine HG.on 20 37 hA0.out ?_
     try simp only [Act.put,List.setIfInBounds_toArray,List.set_cons_zero,List.set_cons_succ]
     refine HG.on 21 38 hA0.out ?_
     try simp only [Act.put,List.setIfInBounds_toArray,List.set_cons_zero,List.set_cons_succ]
     refine HG.on 22 39 hA0.out ?_
     try simp only [Act.put,List.setIfInBounds_toArray,List.set_cons_zero,List.set_cons_succ]
     refine wpHd_tail (by kernel_rfl) ?_
     simp only [List.drop_succ_cons,List.drop_zero]
     go_wp2
     go_ret
     exact .inl ⟨rfl,fun e=>(by cases HA2.out.2 e),by have hE:=hE.out;exact eX⟩
   ·have HA2:=Hm (HA.out (fun h=>hc h.1))
    have hd2:(xc !=yc)=true:=by simpa using hc
    clear HT HA hc
    go_wp2
    refine wp_region_head 23 (fun w' =>Ext (wr) w'∧(∀b o,b<(wr).heap.size→w'.cell? ⟨b,o,none⟩=(wr).cell? ⟨b,o,none⟩)∧(∀b o,b<(wr).heap.size→w'.frozen? ⟨b,o,none⟩=(wr).frozen? ⟨b,o,none⟩)) (by kernel_rfl) (by decide) ?_
    have hA0:Hid ((fun w' =>Ext (wr) w'∧(∀b o,b<(wr).heap.size→w'.cell? ⟨b,o,none⟩=(wr).cell? ⟨b,o,none⟩)∧(∀b o,b<(wr).heap.size→w'.frozen? ⟨b,o,none⟩=(wr).frozen? ⟨b,o,none⟩)) wr.drew):=held_of (by exact eX)
    refine HG.on 0 17 hA0.out ?_
    try simp only [Act.put,List.setIfInBounds_toArray,List.set_cons_zero,List.set_cons_succ]
    refine HG.on 1 18 hA0.out ?_
    try simp only [Act.put,List.setIfInBounds_toArray,List.set_cons_zero,List.set_cons_succ]
    refine HG.on 2 19 hA0.out ?_
    try simp only [Act.put,List.setIfInBounds_toArray,List.set_cons_zero,List.set_cons_succ]
    refine HG.on 3 20 hA0.out ?_
    try simp only [Act.put,List.setIfInBounds_toArray,List.set_cons_zero,List.set_cons_succ]
    refine HG.on 4 21 hA0.out ?_
    try simp only [Act.put,List.setIfInBounds_toArray,List.set_cons_zero,List.set_cons_succ]
    refine HG.on 5 22 hA0.out ?_
    try simp only [Act.put,List.setIfInBounds_toArray,List.set_cons_zero,List.set_cons_succ]
    refine HG.on 6 23 hA0.out ?_
    try simp only [Act.put,List.setIfInBounds_toArray,List.set_cons_zero,List.set_cons_succ]
    refine HG.on 7 24 hA0.out ?_
    try simp only [Act.put,List.setIfInBounds_toArray,List.set_cons_zero,List.set_cons_succ]
    refine HG.on 8 25 hA0.out ?_
    try simp only [Act.put,List.setIfInBounds_toArray,List.set_cons_zero,List.set_cons_succ]
    refine HG.on 9 26 hA0.out ?_
    try simp only [Act.put,List.setIfInBounds_toArray,List.set_cons_zero,List.set_cons_succ]
    refine HG.on 10 27 hA0.out ?_
    try simp only [Act.put,List.setIfInBounds_toArray,List.set_cons_zero,List.set_cons_succ]
    refine HG.on 11 28 hA0.out ?_
    try simp only [Act.put,List.setIfInBounds_toArray,List.set_cons_zero,List.set_cons_succ]
    refine wpHd_takeD (i:=12) (d:=some 29) (v:=undef) rfl rfl (by kernel_rfl) (by kernel_rfl) (by kernel_rfl) (fun _ _ _ h=>h) (Or.inr ⟨by rfl,rfl⟩) hA0.out ?_
    try simp only [Act.put,List.setIfInBounds_toArray,List.set_cons_zero,List.set_cons_succ]
    refine wpHd_takeD (i:=13) (d:=some 30) (v:=undef) rfl rfl (by kernel_rfl) (by kernel_rfl) (by kernel_rfl) (fun _ _ _ h=>h) (Or.inr ⟨by rfl,rfl⟩) hA0.out ?_
    try simp only [Act.put,List.setIfInBounds_toArray,List.set_cons_zero,List.set_cons_succ]
    refine wpHd_takeD (i:=14) (d:=some 31) (v:=undef) rfl rfl (by kernel_rfl) (by kernel_rfl) (by kernel_rfl) (fun _ _ _ h=>h) (Or.inr ⟨by rfl,rfl⟩) hA0.out ?_
    try simp only [Act.put,List.setIfInBounds_toArray,List.set_cons_zero,List.set_cons_succ]
    refine wpHd_takeD (i:=15) (d:=some 32) (v:=undef) rfl rfl (by kernel_rfl) (by kernel_rfl) (by kernel_rfl) (fun _ _ _ h=>h) (Or.inr ⟨by rfl,rfl⟩) hA0.out ?_
    try simp only [Act.put,List.setIfInBounds_toArray,List.set_cons_zero,List.set_cons_succ]
    refine wpHd_takeD (i:=16) (d:=some 33) (v:=undef) rfl rfl (by kernel_rfl) (by kernel_rfl) (by kernel_rfl) (fun _ _ _ h=>h) (Or.inr ⟨by rfl,rfl⟩) hA0.out ?_
    try simp only [Act.put,List.setIfInBounds_toArray,List.set_cons_zero,List.set_cons_succ]
    refine wpHd_takeD (i:=17) (d:=some 34) (v:=undef) rfl rfl (by kernel_rfl) (by kernel_rfl) (by kernel_rfl) (fun _ _ _ h=>h) (Or.inr ⟨by rfl,rfl⟩) hA0.out ?_
    try simp only [Act.put,List.setIfInBounds_toArray,List.set_cons_zero,List.set_cons_succ]
    refine wpHd_takeD (i:=18) (d:=some 35) (v:=undef) rfl rfl (by kernel_rfl) (by kernel_rfl) (by kernel_rfl) (fun _ _ _ h=>h) (Or.inr ⟨by rfl,rfl⟩) hA0.out ?_
    try simp only [Act.put,List.setIfInBounds_toArray,List.set_cons_zero,List.set_cons_succ]
    refine wpHd_takeD (i:=19) (d:=some 36) (v:=undef) rfl rfl (by kernel_rfl) (by kernel_rfl) (by kernel_rfl) (fun _ _ _ h=>h) (Or.inr ⟨by rfl,rfl⟩) hA0.out ?_
    try simp only [Act.put,List.setIfInBounds_toArray,List.set_cons_zero,List.set_cons_succ]
    refine wpHd_takeD (i:=20) (d:=some 37) (v:=undef) rfl rfl (by kernel_rfl) (by kernel_rfl) (by kernel_rfl) (fun _ _ _ h=>h) (Or.inr ⟨by rfl,rfl⟩) hA0.out ?_
    try simp only [Act.put,List.setIfInBounds_toArray,List.set_cons_zero,List.set_cons_succ]
    refine wpHd_takeD (i:=21) (d:=some 38) (v:=undef) rfl rfl (by kernel_rfl) (by kernel_rfl) (by kernel_rfl) (fun _ _ _ h=>h) (Or.inr ⟨by rfl,rfl⟩) hA0.out ?_
    try simp only [Act.put,List.setIfInBounds_toArray,List.set_cons_zero,List.set_cons_succ]
    refine wpHd_takeD (i:=22) (d:=some 39) (v:=undef) rfl rfl (by kernel_rfl) (by kernel_rfl) (by kernel_rfl) (fun _ _ _ h=>h) (Or.inr ⟨by rfl,rfl⟩) hA0.out ?_
    try simp only [Act.put,List.setIfInBounds_toArray,List.set_cons_zero,List.set_cons_succ]
    refine wpHd_tail (by kernel_rfl) ?_
    simp only [List.drop_succ_cons,List.drop_zero]
    go_wp2
    go_ret
    exact .inl ⟨rfl,fun e=>(by cases HA2.out.2 e),by have hE:=hE.out;exact eX⟩
  ·obtain rfl:k=l.length:=by omega
   go_wp2
   go_ret
   refine ⟨true,rfl,⟨fun _=> ?_,fun _=>rfl⟩,by have hE:=hE.out;exact eX⟩
   have:=htk.out
   rw [List.take_length,HN.out,List.take_length] at this
   exact this
end Go.Proofs.YtodbhliidbclcaaGreat
namespace Go.Proofs.YtodbhliidbclcaaGreat
open Go.RowKit
theorem right15_any (ps:List RR) (a:Option Addr) (cap:Nat) (w:World) (hl:RL w (.slice a ps.length cap) ps) (hb:∀p∈ps,p.r.wb) (hlen:ps.length≤9223372036854775807):
 Calls Tryz.prog 5 #[.slice a ps.length cap] w fun e w' =>e= .returned (.bool (ofE (ps.map RR.r)==0))∧Ext w w' :=by
 have HRA:=Hm (rof_any ps a cap w hl hb hlen)
 unfold ROfPost at HRA
 clear hl hb
 go_enter Tryz.func5,Tryz.ntmps5
 go_wp2_with (go_at_call 19;refine HRA.out.mono ?_;rintro e w4 ⟨aw,cw,n,rfl, -, -,hb4⟩)
 go_ret
 exact ⟨rfl,hb4⟩
structure OwnQ (ps:List RR) (W:World) (g N:Nat) (cc:Value) (qc:List RR) (aw:Option Addr) (cw:Nat) (U:List RR):Prop where
 ca:Ca W N g cc qc
 rl:RL W (.slice aw U.length cw) U
 eq:U.map RR.r=qc.map RR.r
 rc:RCat U
theorem own15_any (ps:List RR) (a:Option Addr) (cap:Nat) (w:World) (hl:RL w (.slice a ps.length cap) ps) (hb:∀p∈ps,p.r.wb) (hlen:ps.length≤1000) (h0:ofE (ps.map RR.r)=0):
 Calls Tryz.prog 6 #[.slice a ps.length cap] w fun e w' =>∃g N cc qc aw cw U,e= .returned (.tuple #[.pointer (some ⟨g,0,none⟩), .slice aw U.length cw])∧OwnQ ps w' g N cc qc aw cw U∧Ext w w' :=by
 have HRA:=Hm (rof_any ps a cap w hl hb (by omega))
 unfold ROfPost at HRA
 rw [h0] at HRA
 have HB:=Hm hb
 have H0:=Hm h0
 have HOA:=Hm (fun W (h:Ext w W)=>own9_any ps a cap W (hl.ext h) hlen hb)
 obtain ⟨NA,hNA⟩:∃E,E=ofPl (ps.map RR.r):=⟨_,rfl⟩
 rw [←hNA] at HRA
 have HNA:=Hm hNA
 clear hl hb h0 hNA
 go_enter Tryz.func6,Tryz.ntmps6
 go_wp2_with (first
  |(go_at_call 19;refine HRA.out.mono ?_;rintro e w4 ⟨aw,cw,n,rfl,h1, -,hb4⟩;have HW:=Hm (h1 (by first|exact rfl|exact trivial));have HB4:=Hm hb4;clear h1 hb4)
  |(go_at_call 21;refine (HOA.out _ HB4.out).mono ?_;rintro e w2 ⟨a2',c2',qs2,rfl,ho2,hb2⟩;have HB2:=Hm (HB4.out.trans hb2);have HX2:=Hm hb2;have HOF:=Hm (cof_any qs2 a2' c2' w2 (by rw [ho2.len];exact ho2.rl) ho2.cap (ho2.wb HB.out) (by rw [ho2.len];exact hlen));rw [ho2.rs,ho2.len] at HOF;unfold COfPost at HOF;rw [H0.out,←HNA.out] at HOF;clear ho2 hb2)
  |(go_at_call 20;refine HOF.out.mono ?_;rintro e w3 ⟨pv,rfl,h1, -,hb3⟩;obtain ⟨rfl,cc,qc,hcc,hqc⟩:=h1 (by first|exact rfl|exact trivial);have HCC:=Hm hcc;have HQC:=Hm hqc;have HB3:=Hm (HB2.out.trans hb3);have HX3:=Hm (HX2.out.trans hb3);clear h1 hcc hqc hb3))
 obtain ⟨hn,hrl⟩:=HW.out
 subst hn
 have hUr:(upP ps ps.length).map RR.r=qc.map RR.r:=by rw [upP_r,HQC.out,List.length_map]
 go_ret2
 exact ⟨_,_,cc,qc,aw,cw,upP ps ps.length,rfl,⟨HCC.out,hrl.ext HX3.out,hUr,⟨by rw [hUr];exact HCC.out.ok,fun p hp=>HB.out p (upP_mem hp)⟩⟩,HB3.out⟩
open Go.RowKit HG
def aw15:Rl:=⟨1,2,⟨#[116]⟩,0, [⟨⟨#[97]⟩,1,false⟩]⟩
theorem aw15_up:ofUp [aw15] 1= [aw15]:=by rfl
theorem aw15_ofE:ofE [aw15]=0:=by decide
theorem aw15_ofPl:ofPl [aw15]=1:=by decide
theorem aw15_wb:aw15.wb:=⟨by show 1≤9223372036854775807;omega,by intro c hc;simp [aw15] at hc;subst hc;show 1≤9223372036854775807;omega,by show 1≤5864062014634;omega,Int.le_refl 0⟩
theorem own_trunc15 {e:Ev} (hk:rowedB e.kind=false):ownB e=true↔(rfB ⟨e.ao,e.av⟩ ⟨0,0⟩=true∧e.old=0∧e.b= []∧e.a= []):=by
 unfold ownB Ev.only
 rw [if_neg (by rw [hk];simp),evB_true,rfB_true]
 obtain ⟨k,ao,av,old,b,a,rs,fl⟩:=e
 simp only [Ev.mk.injEq,Rf.mk.injEq,true_and,and_true]
 constructor
 ·rintro ⟨h1,h2,h3,h4,h5⟩;exact ⟨⟨h1,h2⟩,h3,h4,h5⟩
 ·rintro ⟨⟨h1,h2⟩,h3,h4,h5⟩;exact ⟨h1,h2,h3,h4,h5⟩
theorem aw15_own (rs:List Rf):ownB ⟨7,0,0,0, [], [],rs,0⟩=true:=(own_trunc15 (e:=⟨7,0,0,0, [], [],rs,0⟩) rfl).2 ⟨rfB_true.2 rfl,rfl,rfl,rfl⟩
theorem aw15_e:evE (⟨7,0,0,0, [], [], [⟨1,2⟩],0⟩:Ev) [aw15]=0:=by
 unfold evE
 rw [if_neg (by simp only;omega),if_neg (by rw [aw15_own];simp),if_pos rfl]
 unfold truncE
 rw [if_neg (by simp),if_neg (by
  rw [risB_true.2 (fun i h=>by simp at h)]
  simp),if_neg (by decide),if_neg (by simp only;omega)]
theorem aw15_b1:sevens 5++sevens 300= [5,172,2]:=by rw [sevens_lt (x:=5) (by decide),sevens_ge (x:=300) (by decide),sevens_lt (by decide)];rfl
theorem aw15_b2:((0:Int)::sevens 1)++refsBy [⟨1,2⟩]= [0,1,1,2]:=by
 unfold refsBy
 simp only [List.map_cons,List.map_nil,List.flatten_cons,List.flatten_nil,List.append_nil]
 rw [sevens_lt (x:=1) (by decide),show Int.toNat 1=1 from rfl,show Int.toNat 2=2 from rfl,sevens_lt (x:=1) (by decide),sevens_lt (x:=2) (by decide)];rfl
theorem awake15_any (w:World):Calls Tryz.prog 17 #[] w fun e w' =>e= .returned (.bool true)∧Ext w w' :=by
 have HPB:=Hm (fun W=>putBegin_any 5 300 W (by decide) (by decide))
 have HOF:=Hm (cof_any [⟨aw15,some ⟨w.heap.size,0,none⟩,1⟩] (some ⟨((w.alloc (.cells #[.string ⟨#[97]⟩, .int .u8 1, .bool false] 117))).heap.size,0,none⟩) 1 (((w.alloc (.cells #[.string ⟨#[97]⟩, .int .u8 1, .bool false] 117)).alloc (.cells #[.int .u32 1, .int .u32 2, .string ⟨#[116]⟩, .int .u8 0, .slice (some ⟨w.heap.size,0,none⟩) 1 1] 120)))
  ⟨Sl.new ((w.alloc (.cells #[.string ⟨#[97]⟩, .int .u8 1, .bool false] 117))) #[.int .u32 1, .int .u32 2, .string ⟨#[116]⟩, .int .u8 0, .slice (some ⟨w.heap.size,0,none⟩) 1 1] 120 5 1 1 _ rfl (RR.len _) rfl,fun p hp=>by simp at hp;subst hp;exact (((Sl.new w #[.string ⟨#[97]⟩, .int .u8 1, .bool false] 117 3 1 1 [[.string ⟨#[97]⟩, .int .u8 1, .bool false]] rfl (by intro xs hxs;simp at hxs;subst hxs;rfl) rfl)).ext ((Ext.refl _).alloc _))⟩
  (fun p hp=>by simp at hp;subst hp;exact Nat.le_refl _) (fun p hp=>by simp at hp;subst hp;exact aw15_wb) (by simp))
 unfold COfPost at HOF
 simp only [World.size_alloc,List.map_cons,List.map_nil,List.length_cons,List.length_nil,Nat.zero_add,aw15_ofE,aw15_ofPl,aw15_up] at HOF
 go_enter Tryz.func17,Tryz.ntmps17
 go_upto_region 4 with (go_at_call 20;refine HOF.out.mono ?_;rintro e w1 ⟨pv,rfl,h1, -,hb1⟩;obtain ⟨rfl,c,qs,hc,hq⟩:=h1 (by first|exact rfl|exact trivial);have HC:=Hm hc;have HQ:=Hm hq;have HB1:=Hm (show Ext w w1 from (((Ext.refl w).alloc _).alloc _).trans hb1);clear h1 hc hq hb1)
 have HCD:Hid (Ca ((w1.alloc (.cells #[.int .u32 1, .int .u32 2] 34))) _ _ c qs):=Hm (HC.out.ext ((Ext.refl _).alloc _))
 have HAT:Hid (EL.at 5 K.pc ((w1.alloc (.cells #[.int .u32 1, .int .u32 2] 34))) ⟨(⟨7,0,0,0, [], [], [⟨1,2⟩],0⟩:Ev),none,0,none,0,some ⟨w1.heap.size,0,none⟩,1⟩):=Hm ⟨nilRowP _,nilRowP _,Sl.new w1 #[.int .u32 1, .int .u32 2] 34 2 1 1 (([⟨1,2⟩]:List Rf).map Rf.cells) rfl (by intro xs hxs;simp at hxs;subst hxs;rfl) rfl⟩
 have HPUT:=Hm (recput7_any _ 1 _ _ c qs _ HAT.out ⟨Nat.zero_le _,Nat.zero_le _,show 1≤1000 by omega⟩ ⟨(fun c hc=>by cases hc),(fun c hc=>by cases hc),Int.le_refl 0⟩ HCD.out rfl (by rw [HQ.out];exact aw15_e) (show 1≤8 by omega) (fun r hr=>by simp at hr;subst hr;exact ⟨by decide,by decide⟩) (.inl rfl))
 have HEW:Hid (Ext w ((w1.alloc (.cells #[.int .u32 1, .int .u32 2] 34)))):=Hm (HB1.out.alloc _)
 unfold EL.agg at HPUT
 simp only [List.length_nil,List.length_cons,Nat.zero_add] at HPUT
 clear HCD HAT HQ HC HOF HB1
 go_upto_region 5 with (go_at_call 42;refine HPUT.out.mono ?_;rintro e w5 ⟨v5,rfl,ho5,hb5⟩;have HO5:=Hm ho5;have HE5:=Hm (HEW.out.trans hb5);clear ho5 hb5)
 rw [aw15_b2] at HO5
 obtain ⟨SA,hSA⟩:∃S,S=strOfNums (sevens 5++sevens 300):=⟨_,rfl⟩
 obtain ⟨SB,hSB⟩:∃S,S=strOfNums [0,1,1,2]:=⟨_,rfl⟩
 have HSA:=Hm hSA
 have HSA3:Hid (SA=strOfNums [5,172,2]):=Hm (by rw [hSA,aw15_b1])
 have HSB:=Hm hSB
 clear hSA hSB HPUT HEW
 refine wp_region_head 21 (fun w' =>Ext w5 w'∧(convert 23 9 v5).run Tryz.prog w' = .ok (.string SB) w') (by kernel_rfl) (by decide) ?_
 have hA0:Hid ((fun w' =>Ext w5 w'∧(convert 23 9 v5).run Tryz.prog w' = .ok (.string SB) w') w5.drew):=Hm ⟨(Ext.refl w5).drew,by rw [HSB.out];exact conv_Sl (HO5.out.sl.ext (Ext.refl w5).drew)⟩
 refine wpHd_two (i:=0) (j:=2) rfl rfl rfl rfl (by kernel_rfl) (fun KK hK=> ?_) (fun KK hK=> ?_)
 ·go_simp
  refine (HPB.out _).mono ?_
  rintro e w6 ⟨v6,rfl,ho6,hb6⟩
  have HO6:=Hm ho6
  have HE6:Hid (Ext w5 w6):=Hm ((Ext.refl w5).drew.trans hb6)
  have HZ0:Hid (∀W,Ext w6 W→(fun w' =>Ext w5 w'∧(convert 23 9 v5).run Tryz.prog w' = .ok (.string SB) w') W):=Hm (fun W h=>⟨HE6.out.trans h,by rw [HSB.out];exact conv_Sl (HO5.out.sl.ext (HE6.out.trans h))⟩)
  refine hK.out _ _ (HZ0.out _ (Ext.refl _)) (fun hA=> ?_)
  clear hK KK hA hA0 ho6 hb6
  have HZ1:Hid (∀W,Ext w6 W→(fun w' =>(Ext w5 w'∧(convert 23 9 v5).run Tryz.prog w' = .ok (.string SB) w')∧(convert 23 9 v6).run Tryz.prog w' = .ok (.string SA) w') W):=Hm (fun W h=>⟨HZ0.out _ h,by rw [HSA.out];exact conv_Sl (HO6.out.sl.ext h)⟩)
  have hA1:Hid ((fun w' =>(Ext w5 w'∧(convert 23 9 v5).run Tryz.prog w' = .ok (.string SB) w')∧(convert 23 9 v6).run Tryz.prog w' = .ok (.string SA) w') w6):=Hm (HZ1.out _ (Ext.refl _))
  refine wpHd_str (S' :=(fun w' =>(Ext w5 w'∧(convert 23 9 v5).run Tryz.prog w' = .ok (.string SB) w')∧(convert 23 9 v6).run Tryz.prog w' = .ok (.string SA) w')) (fun w' h=>h.1) _ _ _ _ ?_
  (refine wpHd_takeD (i:=1) (d:=some 29) (v:= ?_) rfl rfl (by kernel_rfl) (by kernel_rfl) (by kernel_rfl) (fun _ _ _ h=>h) (Or.inl ⟨by rfl, ?_⟩) hA1.out ?_;rotate_left 1;(· intro w' hS';have hc' :=hS'.2;go_simp;try with_reducible rfl))
  try simp only [Act.put,List.setIfInBounds_toArray,List.set_cons_zero,List.set_cons_succ]
  refine wpHd_one (i:=2) rfl rfl (by kernel_rfl) (fun KK hK=> ?_)
  go_simp
  refine hK.out _ _ (HZ1.out _ ((Ext.refl _).alloc _)) (fun hA=> ?_)
  clear hK KK hA hA1
  have HF:=Hm (fresh_bytes w6 [5,172,2] 3 rfl)
  have HZ2:Hid (∀W,Ext (w6.alloc (.cells #[.int .u8 5, .int .u8 172, .int .u8 2] 5)) W→(fun w' =>((Ext w5 w'∧(convert 23 9 v5).run Tryz.prog w' = .ok (.string SB) w')∧(convert 23 9 v6).run Tryz.prog w' = .ok (.string SA) w')∧(convert 23 9 (.slice (some ⟨w6.heap.size,0,none⟩) 3 3)).run Tryz.prog w' = .ok (.string SA) w') W):=Hm (fun W h=>⟨HZ1.out _ (((Ext.refl w6).alloc _).trans h),by rw [HSA3.out];exact conv_Sl (HF.out.ext h)⟩)
  obtain ⟨wz,hwz⟩:∃x,x=w6.alloc (.cells #[.int .u8 5, .int .u8 172, .int .u8 2] 5):=⟨_,rfl⟩
  rw [←hwz] at HZ2⊢
  clear hwz HF
  have hA2:Hid ((fun w' =>((Ext w5 w'∧(convert 23 9 v5).run Tryz.prog w' = .ok (.string SB) w')∧(convert 23 9 v6).run Tryz.prog w' = .ok (.string SA) w')∧(convert 23 9 (.slice (some ⟨w6.heap.size,0,none⟩) 3 3)).run Tryz.prog w' = .ok (.string SA) w') wz):=Hm (HZ2.out _ (Ext.refl _))
  refine wpHd_str (S' :=(fun w' =>((Ext w5 w'∧(convert 23 9 v5).run Tryz.prog w' = .ok (.string SB) w')∧(convert 23 9 v6).run Tryz.prog w' = .ok (.string SA) w')∧(convert 23 9 (.slice (some ⟨w6.heap.size,0,none⟩) 3 3)).run Tryz.prog w' = .ok (.string SA) w')) (fun w' h=>h.1) _ _ _ _ ?_
  (refine wpHd_takeD (i:=3) (d:=some 31) (v:= ?_) rfl rfl (by kernel_rfl) (by kernel_rfl) (by kernel_rfl) (fun _ _ _ h=>h) (Or.inl ⟨by rfl, ?_⟩) hA2.out ?_;rotate_left 1;(· intro w' hS';have hc' :=hS'.2;go_simp;try with_reducible rfl))
  try simp only [Act.put,List.setIfInBounds_toArray,List.set_cons_zero,List.set_cons_succ]
  (refine wpHd_takeD (i:=4) (d:=some 32) (v:= ?_) rfl rfl (by kernel_rfl) (by kernel_rfl) (by kernel_rfl) (fun _ _ _ h=>h) (Or.inl ⟨by rfl, ?_⟩) hA2.out ?_;rotate_left 1;(· intro w' hS';clear hS';go_simp;try with_reducible rfl))
  try simp only [Act.put,List.setIfInBounds_toArray,List.set_cons_zero,List.set_cons_succ]
  (refine wpHd_takeD (i:=5) (d:=some 33) (v:= ?_) rfl rfl (by kernel_rfl) (by kernel_rfl) (by kernel_rfl) (fun _ _ _ h=>h) (Or.inl ⟨by rfl, ?_⟩) hA2.out ?_;rotate_left 1;(· intro w' hS';clear hS';go_simp;try with_reducible rfl))
  try simp only [Act.put,List.setIfInBounds_toArray,List.set_cons_zero,List.set_cons_succ]
  (refine wpHd_takeD (i:=6) (d:=some 34) (v:= ?_) rfl rfl (by kernel_rfl) (by kernel_rfl) (by kernel_rfl) (fun _ _ _ h=>h) (Or.inl ⟨by rfl, ?_⟩) hA2.out ?_;rotate_left 1;(· intro w' hS';clear hS';go_simp;try with_reducible rfl))
  try simp only [Act.put,List.setIfInBounds_toArray,List.set_cons_zero,List.set_cons_succ]
  (refine wpHd_takeD (i:=7) (d:=some 35) (v:= ?_) rfl rfl (by kernel_rfl) (by kernel_rfl) (by kernel_rfl) (fun _ _ _ h=>h) (Or.inl ⟨by rfl, ?_⟩) hA2.out ?_;rotate_left 1;(· intro w' hS';clear hS';go_simp;try with_reducible rfl))
  try simp only [Act.put,List.setIfInBounds_toArray,List.set_cons_zero,List.set_cons_succ]
  (refine wpHd_takeD (i:=8) (d:=some 36) (v:= ?_) rfl rfl (by kernel_rfl) (by kernel_rfl) (by kernel_rfl) (fun _ _ _ h=>h) (Or.inl ⟨by rfl, ?_⟩) hA2.out ?_;rotate_left 1;(· intro w' hS';clear hS';go_simp;try with_reducible rfl))
  try simp only [Act.put,List.setIfInBounds_toArray,List.set_cons_zero,List.set_cons_succ]
  (refine wpHd_takeD (i:=9) (d:=some 37) (v:= ?_) rfl rfl (by kernel_rfl) (by kernel_rfl) (by kernel_rfl) (fun _ _ _ h=>h) (Or.inl ⟨by rfl, ?_⟩) hA2.out ?_;rotate_left 1;(· intro w' hS';clear hS';go_simp;try with_reducible rfl))
  try simp only [Act.put,List.setIfInBounds_toArray,List.set_cons_zero,List.set_cons_succ]
  (refine wpHd_takeD (i:=10) (d:=some 38) (v:= ?_) rfl rfl (by kernel_rfl) (by kernel_rfl) (by kernel_rfl) (fun _ _ _ h=>h) (Or.inl ⟨by rfl, ?_⟩) hA2.out ?_;rotate_left 1;(· intro w' hS';clear hS';go_simp;try with_reducible rfl))
  try simp only [Act.put,List.setIfInBounds_toArray,List.set_cons_zero,List.set_cons_succ]
  (refine wpHd_takeD (i:=11) (d:=some 39) (v:= ?_) rfl rfl (by kernel_rfl) (by kernel_rfl) (by kernel_rfl) (fun _ _ _ h=>h) (Or.inl ⟨by rfl, ?_⟩) hA2.out ?_;rotate_left 1;(· intro w' hS';clear hS';go_simp;try with_reducible rfl))
  try simp only [Act.put,List.setIfInBounds_toArray,List.set_cons_zero,List.set_cons_succ]
  (refine wpHd_takeD (i:=12) (d:=some 40) (v:= ?_) rfl rfl (by kernel_rfl) (by kernel_rfl) (by kernel_rfl) (fun _ _ _ h=>h) (Or.inl ⟨by rfl, ?_⟩) hA2.out ?_;rotate_left 1;(· intro w' hS';clear hS';go_simp;try with_reducible rfl))
  try simp only [Act.put,List.setIfInBounds_toArray,List.set_cons_zero,List.set_cons_succ]
  (refine wpHd_takeD (i:=13) (d:=some 41) (v:= ?_) rfl rfl (by kernel_rfl) (by kernel_rfl) (by kernel_rfl) (fun _ _ _ h=>h) (Or.inl ⟨by rfl, ?_⟩) hA2.out ?_;rotate_left 1;(· intro w' hS';clear hS';go_simp;try with_reducible rfl))
  try simp only [Act.put,List.setIfInBounds_toArray,List.set_cons_zero,List.set_cons_succ]
  (refine wpHd_takeD (i:=14) (d:=some 42) (v:= ?_) rfl rfl (by kernel_rfl) (by kernel_rfl) (by kernel_rfl) (fun _ _ _ h=>h) (Or.inl ⟨by rfl, ?_⟩) hA2.out ?_;rotate_left 1;(· intro w' hS';clear hS';go_simp;try with_reducible rfl))
  try simp only [Act.put,List.setIfInBounds_toArray,List.set_cons_zero,List.set_cons_succ]
  (refine wpHd_takeD (i:=15) (d:=some 43) (v:= ?_) rfl rfl (by kernel_rfl) (by kernel_rfl) (by kernel_rfl) (fun _ _ _ h=>h) (Or.inl ⟨by rfl, ?_⟩) hA2.out ?_;rotate_left 1;(· intro w' hS';clear hS';go_simp;try with_reducible rfl))
  try simp only [Act.put,List.setIfInBounds_toArray,List.set_cons_zero,List.set_cons_succ]
  (refine wpHd_takeD (i:=16) (d:=some 44) (v:= ?_) rfl rfl (by kernel_rfl) (by kernel_rfl) (by kernel_rfl) (fun _ _ _ h=>h) (Or.inl ⟨by rfl, ?_⟩) hA2.out ?_;rotate_left 1;(· intro w' hS';have hc' :=hS'.1.1.2;go_simp;try with_reducible rfl))
  try simp only [Act.put,List.setIfInBounds_toArray,List.set_cons_zero,List.set_cons_succ]
  refine wpHd_oneG (i:=17) rfl (by rfl) (by kernel_rfl) (fun KK hK=> ?_)
  go_simp
  have hB3:Hid ((fun w' =>((Ext w5 w'∧(convert 23 9 v5).run Tryz.prog w' = .ok (.string SB) w')∧(convert 23 9 v6).run Tryz.prog w' = .ok (.string SA) w')∧(convert 23 9 (.slice (some ⟨w6.heap.size,0,none⟩) 3 3)).run Tryz.prog w' = .ok (.string SA) w') (wz.alloc (.cells #[.int .u8 0, .int .u8 1, .int .u8 1, .int .u8 2] 5))):=Hm (HZ2.out _ ((Ext.refl wz).alloc _))
  refine hK.out _ _ hB3.out (fun hA=> ?_)
  clear hK KK hA hA2
  have hA3:Hid ((fun w' =>(((Ext w5 w'∧(convert 23 9 v5).run Tryz.prog w' = .ok (.string SB) w')∧(convert 23 9 v6).run Tryz.prog w' = .ok (.string SA) w')∧(convert 23 9 (.slice (some ⟨w6.heap.size,0,none⟩) 3 3)).run Tryz.prog w' = .ok (.string SA) w')∧(convert 23 9 (.slice (some ⟨wz.heap.size,0,none⟩) 4 4)).run Tryz.prog w' = .ok (.string SB) w') (wz.alloc (.cells #[.int .u8 0, .int .u8 1, .int .u8 1, .int .u8 2] 5))):=Hm ⟨hB3.out,by rw [HSB.out];exact conv_Sl (fresh_bytes wz [0,1,1,2] 4 rfl)⟩
  have HEZ:Hid (Ext w5 (wz.alloc (.cells #[.int .u8 0, .int .u8 1, .int .u8 1, .int .u8 2] 5))):=Hm hB3.out.1.1.1
  clear hB3
  refine wpHd_str (S' :=(fun w' =>(((Ext w5 w'∧(convert 23 9 v5).run Tryz.prog w' = .ok (.string SB) w')∧(convert 23 9 v6).run Tryz.prog w' = .ok (.string SA) w')∧(convert 23 9 (.slice (some ⟨w6.heap.size,0,none⟩) 3 3)).run Tryz.prog w' = .ok (.string SA) w')∧(convert 23 9 (.slice (some ⟨wz.heap.size,0,none⟩) 4 4)).run Tryz.prog w' = .ok (.string SB) w')) (fun w' h=>h.1) _ _ _ _ ?_
  (refine wpHd_takeD (i:=18) (d:=some 46) (v:= ?_) rfl rfl (by kernel_rfl) (by kernel_rfl) (by kernel_rfl) (fun _ _ _ h=>h) (Or.inl ⟨by rfl, ?_⟩) hA3.out ?_;rotate_left 1;(· intro w' hS';have hc' :=hS'.2;go_simp;try with_reducible rfl))
  try simp only [Act.put,List.setIfInBounds_toArray,List.set_cons_zero,List.set_cons_succ]
  (refine wpHd_takeD (i:=19) (d:=some 47) (v:= ?_) rfl rfl (by kernel_rfl) (by kernel_rfl) (by kernel_rfl) (fun _ _ _ h=>h) (Or.inl ⟨by rfl, ?_⟩) hA3.out ?_;rotate_left 1;(· intro w' hS';clear hS';go_simp;try with_reducible rfl))
  try simp only [Act.put,List.setIfInBounds_toArray,List.set_cons_zero,List.set_cons_succ]
  (refine wpHd_takeD (i:=20) (d:=some 48) (v:= ?_) rfl rfl (by kernel_rfl) (by kernel_rfl) (by kernel_rfl) (fun _ _ _ h=>h) (Or.inl ⟨by rfl, ?_⟩) hA3.out ?_;rotate_left 1;(· intro w' hS';clear hS';go_simp;try with_reducible rfl))
  try simp only [Act.put,List.setIfInBounds_toArray,List.set_cons_zero,List.set_cons_succ]
  refine wpHd_tail (by kernel_rfl) ?_
  simp only [List.drop_succ_cons,List.drop_zero]
  clear hA3
  go_wp2
  go_ret
  exact ⟨rfl,HE5.out.trans HEZ.out⟩
 ·go_simp
  have HZ0:Hid (∀W,Ext w5 W→(fun w' =>Ext w5 w'∧(convert 23 9 v5).run Tryz.prog w' = .ok (.string SB) w') W):=Hm (fun W h=>⟨h,by rw [HSB.out];exact conv_Sl (HO5.out.sl.ext h)⟩)
  refine hK.out _ _ (HZ0.out _ (by exact eX)) (fun hA=> ?_)
  clear hK KK hA hA0
  have HF:Hid (Sl (w5.drew.alloc (.cells #[.int .u8 5, .int .u8 172, .int .u8 2] 5)) (.slice (some ⟨w5.heap.size,0,none⟩) 3 3) 1 ([5,172,2].map bcell)):=Hm (fresh_bytes w5.drew [5,172,2] 3 rfl)
  have HD:Hid (Ext w5 (w5.drew.alloc (.cells #[.int .u8 5, .int .u8 172, .int .u8 2] 5))):=Hm (by exact eX)
  have HZ1:Hid (∀W,Ext (w5.drew.alloc (.cells #[.int .u8 5, .int .u8 172, .int .u8 2] 5)) W→(fun w' =>(Ext w5 w'∧(convert 23 9 v5).run Tryz.prog w' = .ok (.string SB) w')∧(convert 23 9 (.slice (some ⟨w5.heap.size,0,none⟩) 3 3)).run Tryz.prog w' = .ok (.string SA) w') W):=Hm (fun W h=>⟨HZ0.out _ (HD.out.trans h),by rw [HSA3.out];exact conv_Sl (HF.out.ext h)⟩)
  have hA1:Hid ((fun w' =>(Ext w5 w'∧(convert 23 9 v5).run Tryz.prog w' = .ok (.string SB) w')∧(convert 23 9 (.slice (some ⟨w5.heap.size,0,none⟩) 3 3)).run Tryz.prog w' = .ok (.string SA) w') (w5.drew.alloc (.cells #[.int .u8 5, .int .u8 172, .int .u8 2] 5))):=Hm (HZ1.out _ (Ext.refl _))
  refine wpHd_str (S' :=(fun w' =>(Ext w5 w'∧(convert 23 9 v5).run Tryz.prog w' = .ok (.string SB) w')∧(convert 23 9 (.slice (some ⟨w5.heap.size,0,none⟩) 3 3)).run Tryz.prog w' = .ok (.string SA) w')) (fun w' h=>h.1) _ _ _ _ ?_
  (refine wpHd_takeD (i:=3) (d:=some 31) (v:= ?_) rfl rfl (by kernel_rfl) (by kernel_rfl) (by kernel_rfl) (fun _ _ _ h=>h) (Or.inl ⟨by rfl, ?_⟩) hA1.out ?_;rotate_left 1;(· intro w' hS';have hc' :=hS'.2;go_simp;try with_reducible rfl))
  try simp only [Act.put,List.setIfInBounds_toArray,List.set_cons_zero,List.set_cons_succ]
  refine wpHd_one (i:=0) rfl rfl (by kernel_rfl) (fun KK hK=> ?_)
  go_simp
  refine (HPB.out _).mono ?_
  rintro e wz ⟨v6,rfl,ho6,hb6⟩
  have HO6:=Hm ho6
  have HE6:Hid (Ext (w5.drew.alloc (.cells #[.int .u8 5, .int .u8 172, .int .u8 2] 5)) wz):=Hm (by first|exact hb6|exact (Ext.refl _).trans hb6)
  refine hK.out _ _ (HZ1.out _ HE6.out) (fun hA=> ?_)
  clear hK KK hA hA1 ho6 hb6
  have HZ2:Hid (∀W,Ext wz W→(fun w' =>((Ext w5 w'∧(convert 23 9 v5).run Tryz.prog w' = .ok (.string SB) w')∧(convert 23 9 (.slice (some ⟨w5.heap.size,0,none⟩) 3 3)).run Tryz.prog w' = .ok (.string SA) w')∧(convert 23 9 v6).run Tryz.prog w' = .ok (.string SA) w') W):=Hm (fun W h=>⟨HZ1.out _ (HE6.out.trans h),by rw [HSA.out];exact conv_Sl (HO6.out.sl.ext h)⟩)
  have hA2:Hid ((fun w' =>((Ext w5 w'∧(convert 23 9 v5).run Tryz.prog w' = .ok (.string SB) w')∧(convert 23 9 (.slice (some ⟨w5.heap.size,0,none⟩) 3 3)).run Tryz.prog w' = .ok (.string SA) w')∧(convert 23 9 v6).run Tryz.prog w' = .ok (.string SA) w') wz):=Hm (HZ2.out _ (Ext.refl _))
  refine wpHd_str (S' :=(fun w' =>((Ext w5 w'∧(convert 23 9 v5).run Tryz.prog w' = .ok (.string SB) w')∧(convert 23 9 (.slice (some ⟨w5.heap.size,0,none⟩) 3 3)).run Tryz.prog w' = .ok (.string SA) w')∧(convert 23 9 v6).run Tryz.prog w' = .ok (.string SA) w')) (fun w' h=>h.1) _ _ _ _ ?_
  (refine wpHd_takeD (i:=1) (d:=some 29) (v:= ?_) rfl rfl (by kernel_rfl) (by kernel_rfl) (by kernel_rfl) (fun _ _ _ h=>h) (Or.inl ⟨by rfl, ?_⟩) hA2.out ?_;rotate_left 1;(· intro w' hS';have hc' :=hS'.2;go_simp;try with_reducible rfl))
  try simp only [Act.put,List.setIfInBounds_toArray,List.set_cons_zero,List.set_cons_succ]
  (refine wpHd_takeD (i:=4) (d:=some 32) (v:= ?_) rfl rfl (by kernel_rfl) (by kernel_rfl) (by kernel_rfl) (fun _ _ _ h=>h) (Or.inl ⟨by rfl, ?_⟩) hA2.out ?_;rotate_left 1;(· intro w' hS';clear hS';go_simp;try with_reducible rfl))
  try simp only [Act.put,List.setIfInBounds_toArray,List.set_cons_zero,List.set_cons_succ]
  (refine wpHd_takeD (i:=5) (d:=some 33) (v:= ?_) rfl rfl (by kernel_rfl) (by kernel_rfl) (by kernel_rfl) (fun _ _ _ h=>h) (Or.inl ⟨by rfl, ?_⟩) hA2.out ?_;rotate_left 1;(· intro w' hS';clear hS';go_simp;try with_reducible rfl))
  try simp only [Act.put,List.setIfInBounds_toArray,List.set_cons_zero,List.set_cons_succ]
  (refine wpHd_takeD (i:=6) (d:=some 34) (v:= ?_) rfl rfl (by kernel_rfl) (by kernel_rfl) (by kernel_rfl) (fun _ _ _ h=>h) (Or.inl ⟨by rfl, ?_⟩) hA2.out ?_;rotate_left 1;(· intro w' hS';clear hS';go_simp;try with_reducible rfl))
  try simp only [Act.put,List.setIfInBounds_toArray,List.set_cons_zero,List.set_cons_succ]
  (refine wpHd_takeD (i:=7) (d:=some 35) (v:= ?_) rfl rfl (by kernel_rfl) (by kernel_rfl) (by kernel_rfl) (fun _ _ _ h=>h) (Or.inl ⟨by rfl, ?_⟩) hA2.out ?_;rotate_left 1;(· intro w' hS';clear hS';go_simp;try with_reducible rfl))
  try simp only [Act.put,List.setIfInBounds_toArray,List.set_cons_zero,List.set_cons_succ]
  (refine wpHd_takeD (i:=8) (d:=some 36) (v:= ?_) rfl rfl (by kernel_rfl) (by kernel_rfl) (by kernel_rfl) (fun _ _ _ h=>h) (Or.inl ⟨by rfl, ?_⟩) hA2.out ?_;rotate_left 1;(· intro w' hS';clear hS';go_simp;try with_reducible rfl))
  try simp only [Act.put,List.setIfInBounds_toArray,List.set_cons_zero,List.set_cons_succ]
  (refine wpHd_takeD (i:=9) (d:=some 37) (v:= ?_) rfl rfl (by kernel_rfl) (by kernel_rfl) (by kernel_rfl) (fun _ _ _ h=>h) (Or.inl ⟨by rfl, ?_⟩) hA2.out ?_;rotate_left 1;(· intro w' hS';clear hS';go_simp;try with_reducible rfl))
  try simp only [Act.put,List.setIfInBounds_toArray,List.set_cons_zero,List.set_cons_succ]
  (refine wpHd_takeD (i:=10) (d:=some 38) (v:= ?_) rfl rfl (by kernel_rfl) (by kernel_rfl) (by kernel_rfl) (fun _ _ _ h=>h) (Or.inl ⟨by rfl, ?_⟩) hA2.out ?_;rotate_left 1;(· intro w' hS';clear hS';go_simp;try with_reducible rfl))
  try simp only [Act.put,List.setIfInBounds_toArray,List.set_cons_zero,List.set_cons_succ]
  (refine wpHd_takeD (i:=11) (d:=some 39) (v:= ?_) rfl rfl (by kernel_rfl) (by kernel_rfl) (by kernel_rfl) (fun _ _ _ h=>h) (Or.inl ⟨by rfl, ?_⟩) hA2.out ?_;rotate_left 1;(· intro w' hS';clear hS';go_simp;try with_reducible rfl))
  try simp only [Act.put,List.setIfInBounds_toArray,List.set_cons_zero,List.set_cons_succ]
  (refine wpHd_takeD (i:=12) (d:=some 40) (v:= ?_) rfl rfl (by kernel_rfl) (by kernel_rfl) (by kernel_rfl) (fun _ _ _ h=>h) (Or.inl ⟨by rfl, ?_⟩) hA2.out ?_;rotate_left 1;(· intro w' hS';clear hS';go_simp;try with_reducible rfl))
  try simp only [Act.put,List.setIfInBounds_toArray,List.set_cons_zero,List.set_cons_succ]
  (refine wpHd_takeD (i:=13) (d:=some 41) (v:= ?_) rfl rfl (by kernel_rfl) (by kernel_rfl) (by kernel_rfl) (fun _ _ _ h=>h) (Or.inl ⟨by rfl, ?_⟩) hA2.out ?_;rotate_left 1;(· intro w' hS';clear hS';go_simp;try with_reducible rfl))
  try simp only [Act.put,List.setIfInBounds_toArray,List.set_cons_zero,List.set_cons_succ]
  (refine wpHd_takeD (i:=14) (d:=some 42) (v:= ?_) rfl rfl (by kernel_rfl) (by kernel_rfl) (by kernel_rfl) (fun _ _ _ h=>h) (Or.inl ⟨by rfl, ?_⟩) hA2.out ?_;rotate_left 1;(· intro w' hS';clear hS';go_simp;try with_reducible rfl))
  try simp only [Act.put,List.setIfInBounds_toArray,List.set_cons_zero,List.set_cons_succ]
  (refine wpHd_takeD (i:=15) (d:=some 43) (v:= ?_) rfl rfl (by kernel_rfl) (by kernel_rfl) (by kernel_rfl) (fun _ _ _ h=>h) (Or.inl ⟨by rfl, ?_⟩) hA2.out ?_;rotate_left 1;(· intro w' hS';clear hS';go_simp;try with_reducible rfl))
  try simp only [Act.put,List.setIfInBounds_toArray,List.set_cons_zero,List.set_cons_succ]
  (refine wpHd_takeD (i:=16) (d:=some 44) (v:= ?_) rfl rfl (by kernel_rfl) (by kernel_rfl) (by kernel_rfl) (fun _ _ _ h=>h) (Or.inl ⟨by rfl, ?_⟩) hA2.out ?_;rotate_left 1;(· intro w' hS';have hc' :=hS'.1.1.2;go_simp;try with_reducible rfl))
  try simp only [Act.put,List.setIfInBounds_toArray,List.set_cons_zero,List.set_cons_succ]
  refine wpHd_oneG (i:=17) rfl (by rfl) (by kernel_rfl) (fun KK hK=> ?_)
  go_simp
  have hB3:Hid ((fun w' =>((Ext w5 w'∧(convert 23 9 v5).run Tryz.prog w' = .ok (.string SB) w')∧(convert 23 9 (.slice (some ⟨w5.heap.size,0,none⟩) 3 3)).run Tryz.prog w' = .ok (.string SA) w')∧(convert 23 9 v6).run Tryz.prog w' = .ok (.string SA) w') (wz.alloc (.cells #[.int .u8 0, .int .u8 1, .int .u8 1, .int .u8 2] 5))):=Hm (HZ2.out _ ((Ext.refl wz).alloc _))
  refine hK.out _ _ hB3.out (fun hA=> ?_)
  clear hK KK hA hA2
  have hA3:Hid ((fun w' =>(((Ext w5 w'∧(convert 23 9 v5).run Tryz.prog w' = .ok (.string SB) w')∧(convert 23 9 (.slice (some ⟨w5.heap.size,0,none⟩) 3 3)).run Tryz.prog w' = .ok (.string SA) w')∧(convert 23 9 v6).run Tryz.prog w' = .ok (.string SA) w')∧(convert 23 9 (.slice (some ⟨wz.heap.size,0,none⟩) 4 4)).run Tryz.prog w' = .ok (.string SB) w') (wz.alloc (.cells #[.int .u8 0, .int .u8 1, .int .u8 1, .int .u8 2] 5))):=Hm ⟨hB3.out,by rw [HSB.out];exact conv_Sl (fresh_bytes wz [0,1,1,2] 4 rfl)⟩
  have HEZ:Hid (Ext w5 (wz.alloc (.cells #[.int .u8 0, .int .u8 1, .int .u8 1, .int .u8 2] 5))):=Hm hB3.out.1.1.1
  clear hB3
  refine wpHd_str (S' :=(fun w' =>(((Ext w5 w'∧(convert 23 9 v5).run Tryz.prog w' = .ok (.string SB) w')∧(convert 23 9 (.slice (some ⟨w5.heap.size,0,none⟩) 3 3)).run Tryz.prog w' = .ok (.string SA) w')∧(convert 23 9 v6).run Tryz.prog w' = .ok (.string SA) w')∧(convert 23 9 (.slice (some ⟨wz.heap.size,0,none⟩) 4 4)).run Tryz.prog w' = .ok (.string SB) w')) (fun w' h=>h.1) _ _ _ _ ?_
  (refine wpHd_takeD (i:=18) (d:=some 46) (v:= ?_) rfl rfl (by kernel_rfl) (by kernel_rfl) (by kernel_rfl) (fun _ _ _ h=>h) (Or.inl ⟨by rfl, ?_⟩) hA3.out ?_;rotate_left 1;(· intro w' hS';have hc' :=hS'.2;go_simp;try with_reducible rfl))
  try simp only [Act.put,List.setIfInBounds_toArray,List.set_cons_zero,List.set_cons_succ]
  (refine wpHd_takeD (i:=19) (d:=some 47) (v:= ?_) rfl rfl (by kernel_rfl) (by kernel_rfl) (by kernel_rfl) (fun _ _ _ h=>h) (Or.inl ⟨by rfl, ?_⟩) hA3.out ?_;rotate_left 1;(· intro w' hS';clear hS';go_simp;try with_reducible rfl))
  try simp only [Act.put,List.setIfInBounds_toArray,List.set_cons_zero,List.set_cons_succ]
  (refine wpHd_takeD (i:=20) (d:=some 48) (v:= ?_) rfl rfl (by kernel_rfl) (by kernel_rfl) (by kernel_rfl) (fun _ _ _ h=>h) (Or.inl ⟨by rfl, ?_⟩) hA3.out ?_;rotate_left 1;(· intro w' hS';clear hS';go_simp;try with_reducible rfl))
  try simp only [Act.put,List.setIfInBounds_toArray,List.set_cons_zero,List.set_cons_succ]
  refine wpHd_tail (by kernel_rfl) ?_
  simp only [List.drop_succ_cons,List.drop_zero]
  clear hA3
  go_wp2
  go_ret
  exact ⟨rfl,HE5.out.trans HEZ.out⟩
end Go.Proofs.YtodbhliidbclcaaGreat
namespace Go.Proofs.YtodbhliidbclcaaGreat
open Go.RowKit
def GreatK (l:List K) (cols:List Col) (nm:ByteArray) (w:World) (e:Ending) (w' :World):Prop:=
 ∃g:Bool,e= .returned (.bool g)∧(g=false→(∀c∈l,c.v.s.size≤3000)∧(∀c∈cols,c.nm.size≤60)∧l.length≤20∧cols.length≤20∧nm.size≤60)∧Ext w w'
theorem greatK_any (l:List K) (a:Option Addr) (cap:Nat) (oid ver:Int) (nm:ByteArray) (id:Int) (cols:List Col) (a2:Option Addr) (cap2:Nat) (w:World) (hl:Sl w (.slice a l.length cap) 6 (l.map K.rc)) (hl2:Sl w (.slice a2 cols.length cap2) 3 (cols.map Col.cells))
 (hlen:l.length≤9223372036854775807) (hlen2:cols.length≤9223372036854775807) (hs:∀c∈l,c.v.s.size≤9223372036854775807) (hs2:∀c∈cols,c.nm.size≤9223372036854775807) (hnm:nm.size≤9223372036854775807):
 Calls Tryz.prog 18 #[.slice a l.length cap, .agg #[.int .u32 oid, .int .u32 ver, .string nm, .int .u8 id, .slice a2 cols.length cap2]] w (GreatK l cols nm w):=by
 have HL:=Hm hl
 have HL2:=Hm hl2
 have HS:=Hm hs
 have HS2:=Hm hs2
 clear hl hl2 hs hs2
 go_enter Tryz.func18,Tryz.ntmps18
 go_wp2
 go_loopw [5] (fun i wr=>∃k:Nat,k≤l.length∧i= .int .i64 k∧Hid (∀j (hj:j<l.length),j<k→l[j].v.s.size≤3000)∧Hid (Ext (w.alloc (.cells #[.int .u32 oid, .int .u32 ver, .string nm, .int .u8 id, .slice a2 cols.length cap2] 77)) wr)) (fun i _=>l.length - (intOf i).toNat)
 case atStart=>exact ⟨0,Nat.zero_le _,rfl,fun j _ h=>by omega,Ext.refl _⟩
 case round=>
  obtain ⟨k,hk,rfl,hrel,hE⟩:=hrel
  have hEw:Hid (Ext w wr):=Hm (((Ext.refl w).alloc _).trans hE.out)
  by_cases hlt:k<l.length
  ·obtain ⟨b,o,rfl,hb,hx⟩:=HL.out.at_ (i:=k) (by simpa using hlt)
   obtain ⟨f0,f1,f2,f3,f4,f5⟩:=K.rcAt hlt hx hb hEw.out
   have hbw:b<wr.heap.size:=Nat.lt_of_lt_of_le hb hEw.out.size
   have hsz:=HS.out _ (List.getElem_mem hlt)
   clear hx
   by_cases h3:3000<l[k].v.s.size
   ·go_wp2
    go_ret
    exact ⟨true,rfl,(fun h=>by cases h),hEw.out⟩
   ·have h4:l[k].v.s.size≤3000:=by omega
    go_wp2
    go_roundw
    case rel=>exact ⟨k+1,by omega,by go_num,fun j hj hjk=>by
     by_cases e:j=k
     ·subst e;exact h4
     ·exact hrel.out j hj (by omega),hE⟩
    case measure=>simp [intOf];omega
  ·have hkk:k=l.length:=by omega
   have H3:Hid (∀c∈l,c.v.s.size≤3000):=Hm (fun c hc=>by
    obtain ⟨i,hi,rfl⟩:=List.getElem_of_mem hc
    exact hrel.out i hi (by omega))
   subst hkk
   clear hrel
   have hBx:=(Blk.new w #[.int .u32 oid, .int .u32 ver, .string nm, .int .u8 id, .slice a2 cols.length cap2] 77).ext hE.out
   have g0:=hBx.cell
   have z0:=hBx.lt
   clear hBx
   go_wp2
   obtain ⟨wo,rfl⟩:∃wo:World,wo=wr:=⟨_,rfl⟩
   go_loopw [6] (fun i wr=>∃k:Nat,k≤cols.length∧i= .int .i64 k∧Hid (∀j (hj:j<cols.length),j<k→cols[j].nm.size≤60)∧wr=wo) (fun i _=>cols.length - (intOf i).toNat)
   case atStart=>exact ⟨0,Nat.zero_le _,rfl,fun j _ h=>by omega,rfl⟩
   case round=>
    obtain ⟨k,hk,rfl,hrel,rfl⟩:=hrel
    by_cases hlt:k<cols.length
    ·obtain ⟨b,o,rfl,hb,hx⟩:=HL2.out.at_ (i:=k) (by simpa using hlt)
     obtain ⟨f0,f1,f2⟩:=Col.at_ hlt hx hb hEw.out
     have hbw:b<wr.heap.size:=Nat.lt_of_lt_of_le hb hEw.out.size
     have hsz:=HS2.out _ (List.getElem_mem hlt)
     clear hx
     by_cases h3:60<cols[k].nm.size
     ·go_wp2
      go_ret
      exact ⟨true,rfl,(fun h=>by cases h),hEw.out⟩
     ·have h4:cols[k].nm.size≤60:=by omega
      go_wp2
      go_roundw
      case rel=>exact ⟨k+1,by omega,by go_num,fun j hj hjk=>by
       by_cases e:j=k
       ·subst e;exact h4
       ·exact hrel.out j hj (by omega),(by first|trivial|rfl)⟩
      case measure=>simp [intOf];omega
    ·have hkk:k=cols.length:=by omega
     have H4:Hid (∀c∈cols,c.nm.size≤60):=Hm (fun c hc=>by
      obtain ⟨i,hi,rfl⟩:=List.getElem_of_mem hc
      exact hrel.out i hi (by omega))
     subst hkk
     clear hrel
     by_cases c1:20<l.length
     ·go_wp2
      go_ret
      exact ⟨_,rfl,fun h=>by simp at h;try omega,hEw.out⟩
     ·have c1' :l.length≤20:=by omega
      by_cases c2:20<cols.length
      ·go_wp2
       go_ret
       exact ⟨_,rfl,fun h=>by simp at h;try omega,hEw.out⟩
      ·have c2' :cols.length≤20:=by omega
       go_wp2
       go_ret
       exact ⟨_,rfl,fun h=>⟨H3.out,H4.out,c1',c2',by simp at h;omega⟩,hEw.out⟩
end Go.Proofs.YtodbhliidbclcaaGreat
