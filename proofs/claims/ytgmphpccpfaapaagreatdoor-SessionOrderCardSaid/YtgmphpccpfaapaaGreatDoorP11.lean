/-
Catalogs, the reference's: Add, Of.
-/
import Derived.Test.YtgmphpccpfaapaaGreatDoorP9
set_option maxRecDepth 100000
set_option maxHeartbeats 16000000
namespace Go.Proofs.YtgmphpccpfaapaaGreatDoor
open Go.RowKit
theorem Tryz.infoRRel:(Tryz.prog.info? 44).map (fun i=>(i.zero,i.size,i.bytes))=some (some (.agg #[.int .u32 0, .int .u32 0, .string ByteArray.empty, .int .u8 0, .slice none 0 0]),5,56):=by kernel_rfl
def addP (ps:List RR) (q:RR):List RR:=if addE (ps.map RR.r) q.r=0 then insP ps q else ps
theorem addP_r (ps:List RR) (q:RR):(addP ps q).map RR.r=addL (ps.map RR.r) q.r:=by
 unfold addP addL
 split
 ·exact insP_r ps q
 ·rfl
def RAddPost (ps:List RR) (a:Option Addr) (q:RR) (w:World) (e:Ending) (w' :World):Prop:=
 ∃a' c',e= .returned (.tuple #[.slice a' (addP ps q).length c', .int .i64 (addE (ps.map RR.r) q.r)])∧RL w' (.slice a' (addP ps q).length c') (addP ps q)∧(∀b o,a' =some ⟨b,o,none⟩→(addE (ps.map RR.r) q.r≠0∧a' =a)∨w.heap.size≤b)∧Ext w w'
theorem RAddPost.keep {ps:List RR} {a:Option Addr} {cap:Nat} {q:RR} {w w' :World} {E:Int} (h:addE (ps.map RR.r) q.r=E) (h0:E≠0) (hl:RL w (.slice a ps.length cap) ps) (he:Ext w w'):RAddPost ps a q w (.returned (.tuple #[.slice a ps.length cap, .int .i64 E])) w' :=by
 have e:addP ps q=ps:=by unfold addP;rw [h,if_neg h0]
 exact ⟨a,cap,by rw [e,h],by rw [e];exact hl.ext he,fun b o _=> .inl ⟨by rw [h];exact h0,rfl⟩,he⟩
theorem RAddPost.more {ps:List RR} {a a' :Option Addr} {c' :Nat} {q:RR} {w w' :World} (h:addE (ps.map RR.r) q.r=0) (hl:RL w' (.slice a' (insP ps q).length c') (insP ps q)) (hb:∀b o,a' =some ⟨b,o,none⟩→w.heap.size≤b) (he:Ext w w'):RAddPost ps a q w (.returned (.tuple #[.slice a' (insP ps q).length c', .int .i64 0])) w' :=by
 have e:addP ps q=insP ps q:=by unfold addP;rw [if_pos h]
 exact ⟨a',c',by rw [e,h],by rw [e];exact hl,fun b o h=> .inr (hb b o h),he⟩
theorem radd_any (ps:List RR) (a:Option Addr) (cap:Nat) (q:RR) (w:World) (hl:RL w (.slice a ps.length cap) ps) (hq:q.in w) (hb:q.r.wb) (hlen:ps.length≤1000):
 Calls Tryz.prog 29 #[.slice a ps.length cap,q.agg] w (RAddPost ps a q w):=by
 obtain ⟨i0,hi,hz0,hz1,hz2⟩:=info_parts Tryz.infoRRel
 obtain ⟨⟨oid,ver,nm,id,cols⟩,a2,c2⟩:=q
 unfold RR.agg
 unfold RR.in at hq
 obtain ⟨hb1,hb2,hb3⟩:=hb
 simp only at hq hb1 hb2 hb3⊢
 have HR8:=Hm (fun W (h:Ext w W)=>rright8_big oid ver nm id cols a2 c2 W (hq.ext h) (by omega) hb1 hb2)
 have HGT:=Hm (fun W (h:Ext w W)=>rget_any ps a cap oid ver W (hl.ext h) hlen)
 have HL:=Hm hl
 have HQ:=Hm hq
 have HAE:Hid (addE (ps.map RR.r) (⟨oid,ver,nm,id,cols⟩:Rl)=if (⟨oid,ver,nm,id,cols⟩:Rl).right≠0 then (⟨oid,ver,nm,id,cols⟩:Rl).right else if hasR oid ver (ps.map RR.r)=true then 9 else if 64≤(ps.map RR.r).length then 8 else 0):=Hm rfl
 rw [getP_is] at HGT
 obtain ⟨⟨⟨o1,v1,n1,i1,k1⟩,x1,y1⟩,hz⟩:∃z,z=(getP oid ver ps).getD RR.zero:=⟨_,rfl⟩
 rw [←hz] at HGT
 unfold RR.agg at HGT
 simp only at HGT
 clear hl hq hb1 hb2 hz
 obtain ⟨E,hE⟩:∃E,E=Rl.right (⟨oid,ver,nm,id,cols⟩:Rl):=⟨_,rfl⟩
 rw [←hE] at HR8 HAE
 by_cases h0:E=0
 case neg=>
  have h0' :(E !=0)=true:=by simpa using h0
  have HA:=Hm (HAE.out.trans (if_pos h0))
  have H0:=Hm h0
  clear h0 hE HAE
  go_enter Tryz.func29,Tryz.ntmps29
  go_wp2_with (go_at_call 60;refine (HR8.out _ (by exact eX)).mono ?_;rintro e w1 ⟨rfl,hb1⟩;have hE1:Ext w w1:=(by exact eX))
  go_ret2
  exact RAddPost.keep HA.out H0.out HL.out hE1
 subst h0
 have HAE2:=Hm (HAE.out.trans (if_neg (by simp)))
 clear HAE hE
 cases hh:hasR oid ver (ps.map RR.r) with
 |true=>
  rw [hh] at HGT HAE2
  have HA:=Hm (HAE2.out.trans (if_pos rfl))
  clear hh HAE2
  go_enter Tryz.func29,Tryz.ntmps29
  go_wp2_with (first
   |(go_at_call 60;refine (HR8.out _ (by exact eX)).mono ?_;rintro e w1 ⟨rfl,hb1⟩;have hE1:Ext w w1:=(by exact eX);have g0:=((Blk.new w #[.int .u32 oid, .int .u32 ver, .string nm, .int .u8 id, .slice a2 cols.length c2] 44).ext hb1).cell)
   |(go_at_call 55;refine (HGT.out _ (by exact eX)).mono ?_;rintro e w2 ⟨rfl,hb2⟩;have hE2:Ext w w2:=(by exact eX)))
  go_ret2
  exact RAddPost.keep HA.out (by decide) HL.out (by exact eX)
 |false=>
  rw [hh] at HGT HAE2
  have HHH:=Hm hh
  have HAE3:=Hm (HAE2.out.trans (if_neg (by simp)))
  rw [List.length_map] at HAE3
  clear hh HAE2
  by_cases h64:64≤ps.length
  ·have HA:=Hm (HAE3.out.trans (if_pos h64))
   clear HAE3
   go_enter Tryz.func29,Tryz.ntmps29
   go_wp2_with (first
    |(go_at_call 60;refine (HR8.out _ (by exact eX)).mono ?_;rintro e w1 ⟨rfl,hb1⟩;have hE1:Ext w w1:=(by exact eX);have g0:=((Blk.new w #[.int .u32 oid, .int .u32 ver, .string nm, .int .u8 id, .slice a2 cols.length c2] 44).ext hb1).cell)
    |(go_at_call 55;refine (HGT.out _ (by exact eX)).mono ?_;rintro e w2 ⟨rfl,hb2⟩;have hE2:Ext w w2:=(by exact eX)))
   go_ret2
   exact RAddPost.keep HA.out (by decide) HL.out (by exact eX)
  ·have HA:=Hm (HAE3.out.trans (if_neg h64))
   have h64' :ps.length<64:=by omega
   clear HAE3 h64
   have HPQ:Hid (addP ps (⟨⟨oid,ver,nm,id,cols⟩,a2,c2⟩:RR)=insP ps (⟨⟨oid,ver,nm,id,cols⟩,a2,c2⟩:RR)):=Hm (by unfold addP;rw [if_pos HA.out])
   obtain ⟨P,hP⟩:∃P,P=posR oid ver (ps.map RR.r):=⟨_,rfl⟩
   have HPP:=Hm hP
   have hPn:P≤ps.length:=by have:=posR_le oid ver (ps.map RR.r);rw [List.length_map] at this;omega
   clear hP
   go_enter Tryz.func29,Tryz.ntmps29
   go_wp2_with (first
    |(go_at_call 60;refine (HR8.out _ (by exact eX)).mono ?_;rintro e w1 ⟨rfl,hb1⟩;have hE1:Ext (w.alloc (.cells #[.int .u32 oid, .int .u32 ver, .string nm, .int .u8 id, .slice a2 cols.length c2] 44)) w1:=(by exact eX);have g0:=((Blk.new w #[.int .u32 oid, .int .u32 ver, .string nm, .int .u8 id, .slice a2 cols.length c2] 44).ext hb1).cell)
    |(go_at_call 55;refine (HGT.out _ (by exact eX)).mono ?_;rintro e w2 ⟨rfl,hb2⟩;have hE2:Ext (w.alloc (.cells #[.int .u32 oid, .int .u32 ver, .string nm, .int .u8 id, .slice a2 cols.length c2] 44)) w2:=(by exact eX)))
   have HE2:=Hm hE2
   clear g0 hb1 hb2 hE1 hE2
   go_loopw [9,10,11] (fun v pb i wr=>∃k:Nat,k≤ps.length∧i= .int .i64 k∧pb= .bool (decide (P<k))∧Hid (wr.ownsRow (w.heap.size+1) 44 5 v (outs ps (⟨⟨oid,ver,nm,id,cols⟩,a2,c2⟩:RR) k).length ((outs ps (⟨⟨oid,ver,nm,id,cols⟩,a2,c2⟩:RR) k).map RR.cells).flatten)∧Hid (Ext (w.alloc (.cells #[.int .u32 oid, .int .u32 ver, .string nm, .int .u8 id, .slice a2 cols.length c2] 44)) wr)) (fun _ _ i _=>ps.length - (intOf i).toNat)
   case atStart=>exact ⟨0,Nat.zero_le _,rfl,by rw [decide_eq_false (Nat.not_lt_zero _)],Hm (by rw [outs_zero];exact World.ownsRow_nil _ _ _ _),Hm (by have hE2:=HE2.out;exact eX)⟩
   case round=>
    obtain ⟨k,hk,rfl,rfl,hown,hE⟩:=hrel
    have HEW:=Hm (((Ext.refl w).alloc (.cells #[.int .u32 oid, .int .u32 ver, .string nm, .int .u8 id, .slice a2 cols.length c2] 44)).trans hE.out)
    have HB0:=Hm ((Blk.new w #[.int .u32 oid, .int .u32 ver, .string nm, .int .u8 id, .slice a2 cols.length c2] 44).ext hE.out)
    have g0:=HB0.out.cell
    have z0:=HB0.out.lt
    by_cases hlt:k<ps.length
    ·obtain ⟨b,o,rfl,hb,hx⟩:=HL.out.row.at_ (i:=k) (by simpa using hlt)
     have HF:=Hm (fun W (h:Ext w W)=>RR.at_ hlt hx hb h)
     obtain ⟨f0,f1,f2,f3,f4⟩:=HF.out _ HEW.out
     have hbw:b<wr.heap.size:=Nat.lt_of_lt_of_le hb HEW.out.size
     have HLT:Hid (k<P→aheadP ps[k].r.oid ps[k].r.ver oid ver):=Hm (fun h=>by have:=posR_lt oid ver (ps.map RR.r) k (by simpa using hlt) (by rw [←HPP.out];exact h);rwa [List.getElem_map] at this)
     have HEQ:Hid (k=P→¬ aheadP ps[k].r.oid ps[k].r.ver oid ver):=Hm (fun h=>by
      subst h
      have hp:=HPP.out
      have:=posR_at oid ver (ps.map RR.r) (by rw [←hp];simpa using hlt)
      simp only [←hp,List.getElem_map] at this
      exact this)
     have HNE:Hid (¬ (ps[k].r.oid=oid∧ps[k].r.ver=ver)):=Hm (fun h=>by
      have:=hasR_at (o:=oid) (v:=ver) (l:=ps.map RR.r) (i:=k) (by simpa using hlt) (by rw [List.getElem_map];exact h)
      rw [HHH.out] at this;cases this)
     have HO1:=Hm (fun h=>outs_lt (ps:=ps) (q:=(⟨⟨oid,ver,nm,id,cols⟩,a2,c2⟩:RR)) hlt (HPP.out ▸ h))
     have HO2:=Hm (fun h=>outs_eq (ps:=ps) (q:=(⟨⟨oid,ver,nm,id,cols⟩,a2,c2⟩:RR)) hlt (HPP.out ▸ h))
     have HO3:=Hm (fun h=>outs_gt (ps:=ps) (q:=(⟨⟨oid,ver,nm,id,cols⟩,a2,c2⟩:RR)) hlt (HPP.out ▸ h))
     obtain ⟨p,hp⟩:∃p,p=ps[k]:=⟨_,rfl⟩
     rw [←hp] at f0 f1 f2 f3 f4 HF HLT HEQ HNE HO1 HO2 HO3
     have hol:(outs ps (⟨⟨oid,ver,nm,id,cols⟩,a2,c2⟩:RR) k).length≤100:=by unfold outs;split<;>rw [List.length_take]<;>omega
     clear hx hp
     have hcl:(RR.cells p).length=5:=rfl
     have hql:(RR.cells (⟨⟨oid,ver,nm,id,cols⟩,a2,c2⟩:RR)).length=5:=rfl
     rcases Nat.lt_trichotomy k P with hkP|hkP|hkP
     ·have hab:aheadB oid ver p.r.oid p.r.ver=false:=decide_eq_false (by have:=HLT.out hkP;unfold aheadP at*;omega)
      have HAH:=Hm (fun W=>rahead_any oid ver p.r.oid p.r.ver W)
      rw [hab] at HAH
      have HO:=Hm (HO1.out hkP)
      have hd:decide (P<k)=false:=decide_eq_false (by omega)
      have hd2:decide (P<k+1)=false:=decide_eq_false (by omega)
      rw [hd]
      clear hab HLT HEQ HNE HO1 HO2 HO3 hd
      go_wp2
      go_region_held3 (fun w' =>Ext (wr) w'∧(∀b o,b<(wr).heap.size→w'.cell? ⟨b,o,none⟩=(wr).cell? ⟨b,o,none⟩)∧(∀b o,b<(wr).heap.size→w'.frozen? ⟨b,o,none⟩=(wr).frozen? ⟨b,o,none⟩)) ((exact held_of (by exact eX))) (first|(go_at_call 62;refine (HAH.out _).mono ?_;rintro e w3 ⟨rfl,hb3⟩;have HE3:=Hm (show Ext wr w3 by exact eX)))
      clear hb3 g0
      have HO3:=Hm (owns_ext hown.out HE3.out)
      have HX3:Hid (Ext (w.alloc (.cells #[.int .u32 oid, .int .u32 ver, .string nm, .int .u8 id, .slice a2 cols.length c2] 44)) w3):=Hm (hE.out.trans HE3.out)
      go_wp2_with (at_builtin;refine wpList_append_own _ rfl _ _ 22 rfl (w.heap.size+1) 44 i0 _ 5 56 Tryz.underlying22 hi hz0 hz1 hz2 rfl (by decide) _ _ _ rfl ((owns_ext HO3.out (by exact eX))) ⟨_,0,none⟩ 1 1 p.cells rfl rfl (cells_new _ #[.int .u32 p.r.oid, .int .u32 p.r.ver, .string p.r.nm, .int .u8 p.r.id, .slice p.a p.r.cols.length p.c] _) (by intro u hu;simp [RR.cells] at hu;rcases hu with rfl|rfl|rfl|rfl|rfl<;>rfl) (by unfold maxLen;omega) (by omega) (by have:=HEW.out.size;have:=HE3.out.size;simp;omega) ?_)
      intro v' w4 hown' hgrow _
      have HX4:Hid (Ext (w.alloc (.cells #[.int .u32 oid, .int .u32 ver, .string nm, .int .u8 id, .slice a2 cols.length c2] 44)) w4):=Hm (Below.grown ((HX3.out).alloc _) hgrow (by have:=HX3.out.size;simp at this⊢;omega) (fun g hg=>by have:=(HO3.out.lt g hg).1;simp;omega))
      have HO4:=Hm hown'
      clear hown' hgrow
      go_wp2
      go_roundw
      case rel=>exact ⟨k+1,by omega,by go_num,by rw [hd2],Hm (by rw [HO.out,List.map_append,List.flatten_append,List.length_append];simpa using HO4.out),HX4⟩
      case measure=>simp [intOf];omega
     ·have hab:aheadB oid ver p.r.oid p.r.ver=true:=decide_eq_true (by have h1:=HEQ.out hkP;have h2:=HNE.out;unfold aheadP at*;omega)
      have HAH:=Hm (fun W=>rahead_any oid ver p.r.oid p.r.ver W)
      rw [hab] at HAH
      have HO:=Hm (HO2.out hkP)
      have hd:decide (P<k)=false:=decide_eq_false (by omega)
      have hd2:decide (P<k+1)=true:=decide_eq_true (by omega)
      rw [hd]
      subst hkP
      clear hab HLT HEQ HNE HO1 HO2 HO3 hd
      go_wp2
      go_region_held3 (fun w' =>Ext (wr) w'∧(∀b o,b<(wr).heap.size→w'.cell? ⟨b,o,none⟩=(wr).cell? ⟨b,o,none⟩)∧(∀b o,b<(wr).heap.size→w'.frozen? ⟨b,o,none⟩=(wr).frozen? ⟨b,o,none⟩)) ((exact held_of (by exact eX))) (first|(go_at_call 62;refine (HAH.out _).mono ?_;rintro e w3 ⟨rfl,hb3⟩;have HE3:=Hm (show Ext wr w3 by exact eX)))
      clear hb3
      have HO3:=Hm (owns_ext hown.out HE3.out)
      have HX3:Hid (Ext (w.alloc (.cells #[.int .u32 oid, .int .u32 ver, .string nm, .int .u8 id, .slice a2 cols.length c2] 44)) w3):=Hm (hE.out.trans HE3.out)
      have hbw3:b<w3.heap.size:=Nat.lt_of_lt_of_le hbw HE3.out.size
      go_wp2_with (at_builtin;refine wpList_append_own _ rfl _ _ 22 rfl (w.heap.size+1) 44 i0 _ 5 56 Tryz.underlying22 hi hz0 hz1 hz2 rfl (by decide) _ _ _ rfl ((owns_ext HO3.out (by exact eX))) ⟨_,0,none⟩ 1 1 (RR.cells (⟨⟨oid,ver,nm,id,cols⟩,a2,c2⟩:RR)) rfl rfl (cells_new _ #[.int .u32 oid, .int .u32 ver, .string nm, .int .u8 id, .slice a2 cols.length c2] _) (by intro u hu;simp [RR.cells] at hu;rcases hu with rfl|rfl|rfl|rfl|rfl<;>rfl) (by unfold maxLen;omega) (by omega) (by have:=HEW.out.size;have:=HE3.out.size;simp;omega) ?_)
      intro v' w4 hown' hgrow _
      have HX4:Hid (Ext (w.alloc (.cells #[.int .u32 oid, .int .u32 ver, .string nm, .int .u8 id, .slice a2 cols.length c2] 44)) w4):=Hm (Below.grown ((HX3.out).alloc _) hgrow (by have:=HX3.out.size;simp at this⊢;omega) (fun g hg=>by have:=(HO3.out.lt g hg).1;simp;omega))
      have HO4:=Hm hown'
      clear f0 f1 f2 f3 f4
      obtain ⟨f0,f1,f2,f3,f4⟩:=HF.out w4 (((Ext.refl w).alloc _).trans HX4.out)
      have hbw4:b<w4.heap.size:=Nat.lt_of_lt_of_le hb (((Ext.refl w).alloc (.cells #[.int .u32 oid, .int .u32 ver, .string nm, .int .u8 id, .slice a2 cols.length c2] 44)).trans HX4.out).size
      have hz4:w.heap.size+1≤w4.heap.size:=by have:=HX4.out.size;simpa using this
      clear hown' hgrow g0
      go_wp2_with ((at_builtin;refine wpList_append_own _ rfl _ _ 22 rfl (w.heap.size+1) 44 i0 _ 5 56 Tryz.underlying22 hi hz0 hz1 hz2 rfl (by decide) _ _ _ rfl ((owns_ext HO4.out (by exact eX))) ⟨_,0,none⟩ 1 1 p.cells rfl rfl (cells_new _ #[.int .u32 p.r.oid, .int .u32 p.r.ver, .string p.r.nm, .int .u8 p.r.id, .slice p.a p.r.cols.length p.c] _) (by intro u hu;simp [RR.cells] at hu;rcases hu with rfl|rfl|rfl|rfl|rfl<;>rfl) (by unfold maxLen;omega) (by omega) (by simp;omega) ?_))
      intro v' w5 hown' hgrow _
      have HX5:Hid (Ext (w.alloc (.cells #[.int .u32 oid, .int .u32 ver, .string nm, .int .u8 id, .slice a2 cols.length c2] 44)) w5):=Hm (Below.grown ((HX4.out).alloc _) hgrow (by have:=HX4.out.size;simp at this⊢;omega) (fun g hg=>by have:=(HO4.out.lt g hg).1;simp;omega))
      have HO5:=Hm hown'
      clear hown' hgrow
      go_wp2
      go_roundw
      case rel=>exact ⟨k+1,by omega,by go_num,by rw [hd2],Hm (by rw [HO.out,List.map_append,List.map_append,List.flatten_append,List.flatten_append,List.length_append,List.length_append];simpa using HO5.out),HX5⟩
      case measure=>simp [intOf];omega
     ·have HO:=Hm (HO3.out hkP)
      have hd:decide (P<k)=true:=decide_eq_true (by omega)
      have hd2:decide (P<k+1)=true:=decide_eq_true (by omega)
      rw [hd]
      clear HLT HEQ HNE HO1 HO2 HO3 hd
      go_wp2
      refine wp_region_head 11 (fun w' =>Ext (wr) w'∧(∀b o,b<(wr).heap.size→w'.cell? ⟨b,o,none⟩=(wr).cell? ⟨b,o,none⟩)∧(∀b o,b<(wr).heap.size→w'.frozen? ⟨b,o,none⟩=(wr).frozen? ⟨b,o,none⟩)) (by kernel_rfl) (by decide) ?_
      have hA0:Hid ((fun w' =>Ext (wr) w'∧(∀b o,b<(wr).heap.size→w'.cell? ⟨b,o,none⟩=(wr).cell? ⟨b,o,none⟩)∧(∀b o,b<(wr).heap.size→w'.frozen? ⟨b,o,none⟩=(wr).frozen? ⟨b,o,none⟩)) wr.drew):=held_of (by exact eX)
      refine HG.on 0 37 hA0.out ?_
      try simp only [Act.put,List.setIfInBounds_toArray,List.set_cons_zero,List.set_cons_succ]
      refine HG.on 1 38 hA0.out ?_
      try simp only [Act.put,List.setIfInBounds_toArray,List.set_cons_zero,List.set_cons_succ]
      refine HG.on 2 39 hA0.out ?_
      try simp only [Act.put,List.setIfInBounds_toArray,List.set_cons_zero,List.set_cons_succ]
      refine wpHd_takeD (i:=3) (d:=some 40) (v:=undef) rfl rfl (by kernel_rfl) (by kernel_rfl) (by kernel_rfl) (fun _ _ _ h=>h) (Or.inr ⟨by rfl,rfl⟩) hA0.out ?_
      try simp only [Act.put,List.setIfInBounds_toArray,List.set_cons_zero,List.set_cons_succ]
      refine wpHd_takeD (i:=4) (d:=some 41) (v:=undef) rfl rfl (by kernel_rfl) (by kernel_rfl) (by kernel_rfl) (fun _ _ _ h=>h) (Or.inr ⟨by rfl,rfl⟩) hA0.out ?_
      try simp only [Act.put,List.setIfInBounds_toArray,List.set_cons_zero,List.set_cons_succ]
      refine wpHd_takeD (i:=5) (d:=some 42) (v:=undef) rfl rfl (by kernel_rfl) (by kernel_rfl) (by kernel_rfl) (fun _ _ _ h=>h) (Or.inr ⟨by rfl,rfl⟩) hA0.out ?_
      try simp only [Act.put,List.setIfInBounds_toArray,List.set_cons_zero,List.set_cons_succ]
      refine wpHd_takeD (i:=6) (d:=some 43) (v:=undef) rfl rfl (by kernel_rfl) (by kernel_rfl) (by kernel_rfl) (fun _ _ _ h=>h) (Or.inr ⟨by rfl,rfl⟩) hA0.out ?_
      try simp only [Act.put,List.setIfInBounds_toArray,List.set_cons_zero,List.set_cons_succ]
      refine wpHd_takeD (i:=7) (d:=some 44) (v:=undef) rfl rfl (by kernel_rfl) (by kernel_rfl) (by kernel_rfl) (fun _ _ _ h=>h) (Or.inr ⟨by rfl,rfl⟩) hA0.out ?_
      try simp only [Act.put,List.setIfInBounds_toArray,List.set_cons_zero,List.set_cons_succ]
      refine wpHd_takeD (i:=8) (d:=some 45) (v:=undef) rfl rfl (by kernel_rfl) (by kernel_rfl) (by kernel_rfl) (fun _ _ _ h=>h) (Or.inr ⟨by rfl,rfl⟩) hA0.out ?_
      try simp only [Act.put,List.setIfInBounds_toArray,List.set_cons_zero,List.set_cons_succ]
      refine wpHd_takeD (i:=9) (d:=some 46) (v:=undef) rfl rfl (by kernel_rfl) (by kernel_rfl) (by kernel_rfl) (fun _ _ _ h=>h) (Or.inr ⟨by rfl,rfl⟩) hA0.out ?_
      try simp only [Act.put,List.setIfInBounds_toArray,List.set_cons_zero,List.set_cons_succ]
      refine wpHd_takeD (i:=10) (d:=some 47) (v:=undef) rfl rfl (by kernel_rfl) (by kernel_rfl) (by kernel_rfl) (fun _ _ _ h=>h) (Or.inr ⟨by rfl,rfl⟩) hA0.out ?_
      try simp only [Act.put,List.setIfInBounds_toArray,List.set_cons_zero,List.set_cons_succ]
      refine wpHd_tail (by kernel_rfl) ?_
      simp only [List.drop_succ_cons,List.drop_zero]
      have HE3:Hid (Ext wr wr):=Hm (Ext.refl _)
      have HO3:=hown
      have HX3:=hE
      clear hA0 g0
      go_wp2_with (at_builtin;refine wpList_append_own _ rfl _ _ 22 rfl (w.heap.size+1) 44 i0 _ 5 56 Tryz.underlying22 hi hz0 hz1 hz2 rfl (by decide) _ _ _ rfl ((owns_ext HO3.out (by exact eX))) ⟨_,0,none⟩ 1 1 p.cells rfl rfl (cells_new _ #[.int .u32 p.r.oid, .int .u32 p.r.ver, .string p.r.nm, .int .u8 p.r.id, .slice p.a p.r.cols.length p.c] _) (by intro u hu;simp [RR.cells] at hu;rcases hu with rfl|rfl|rfl|rfl|rfl<;>rfl) (by unfold maxLen;omega) (by omega) (by have:=HEW.out.size;have:=HE3.out.size;simp;omega) ?_)
      intro v' w4 hown' hgrow _
      have HX4:Hid (Ext (w.alloc (.cells #[.int .u32 oid, .int .u32 ver, .string nm, .int .u8 id, .slice a2 cols.length c2] 44)) w4):=Hm (Below.grown ((HX3.out.drew).alloc (.cells #[.int .u32 p.r.oid, .int .u32 p.r.ver, .string p.r.nm, .int .u8 p.r.id, .slice p.a p.r.cols.length p.c] 44)) hgrow (by have:=HX3.out.size;simp at this⊢;omega) (fun g hg=>by have:=(HO3.out.lt g hg).1;simp;omega))
      have HO4:=Hm hown'
      clear hown' hgrow
      go_wp2
      go_roundw
      case rel=>exact ⟨k+1,by omega,by go_num,by rw [hd2],Hm (by rw [HO.out,List.map_append,List.flatten_append,List.length_append];simpa using HO4.out),HX4⟩
      case measure=>simp [intOf];omega
    ·have hkk:k=ps.length:=by omega
     subst hkk
     have hol:(outs ps (⟨⟨oid,ver,nm,id,cols⟩,a2,c2⟩:RR) ps.length).length≤100:=by unfold outs;split<;>rw [List.length_take]<;>omega
     have hql:(RR.cells (⟨⟨oid,ver,nm,id,cols⟩,a2,c2⟩:RR)).length=5:=rfl
     have HE3:Hid (Ext wr wr):=Hm (Ext.refl _)
     have HX3:=hE
     by_cases hPk:P<ps.length
     ·rw [decide_eq_true hPk]
      have HO:=Hm (outs_end (ps:=ps) (q:=(⟨⟨oid,ver,nm,id,cols⟩,a2,c2⟩:RR)) (by rw [←HPP.out];exact hPk))
      rw [HO.out] at hown
      obtain ⟨a',c',hv⟩:=owns_shape hown.out
      subst hv
      go_wp2
      go_ret2
      refine RAddPost.more HA.out ?_ (fun b o h=> ?_) HEW.out
      ·exact ⟨Sl.of_owns (base:=w.heap.size+1) (e:=44) (by rw [List.length_map];exact hown.out) (RR.len _),fun x hx=>(insP_mem hx).elim (fun e=>by rw [e];exact HQ.out.ext HEW.out) (fun h=>(HL.out.sl x h).ext HEW.out)⟩
      ·have:=(hown.out.lt b (by rw [h];rfl)).1
       omega
     ·have hPe:P=ps.length:=by omega
      rw [decide_eq_false hPk]
      have HO:=Hm (outs_last (ps:=ps) (q:=(⟨⟨oid,ver,nm,id,cols⟩,a2,c2⟩:RR)) (by rw [←HPP.out];exact hPe))
      clear hPe hPk
      go_wp2_with (at_builtin;refine wpList_append_own _ rfl _ _ 22 rfl (w.heap.size+1) 44 i0 _ 5 56 Tryz.underlying22 hi hz0 hz1 hz2 rfl (by decide) _ _ _ rfl ((owns_ext hown.out (by exact eX))) ⟨_,0,none⟩ 1 1 (RR.cells (⟨⟨oid,ver,nm,id,cols⟩,a2,c2⟩:RR)) rfl rfl (cells_new _ #[.int .u32 oid, .int .u32 ver, .string nm, .int .u8 id, .slice a2 cols.length c2] _) (by intro u hu;simp [RR.cells] at hu;rcases hu with rfl|rfl|rfl|rfl|rfl<;>rfl) (by unfold maxLen;omega) (by omega) (by have:=HEW.out.size;have:=HE3.out.size;simp;omega) ?_)
      intro v' w4 hown' hgrow _
      have HX4:Hid (Ext (w.alloc (.cells #[.int .u32 oid, .int .u32 ver, .string nm, .int .u8 id, .slice a2 cols.length c2] 44)) w4):=Hm (Below.grown ((HX3.out).alloc (.cells #[.int .u32 oid, .int .u32 ver, .string nm, .int .u8 id, .slice a2 cols.length c2] 44)) hgrow (by have:=HX3.out.size;simp at this⊢;omega) (fun g hg=>by have:=(hown.out.lt g hg).1;simp;omega))
      have hown2:w4.ownsRow (w.heap.size+1) 44 5 v' (insP ps (⟨⟨oid,ver,nm,id,cols⟩,a2,c2⟩:RR)).length ((insP ps (⟨⟨oid,ver,nm,id,cols⟩,a2,c2⟩:RR)).map RR.cells).flatten:=by
       rw [←HO.out,List.map_append,List.flatten_append,List.length_append];simpa using hown'
      obtain ⟨a',c',hv⟩:=owns_shape hown2
      subst hv
      have HO4:=Hm hown2
      have HEW4:=Hm (((Ext.refl w).alloc (.cells #[.int .u32 oid, .int .u32 ver, .string nm, .int .u8 id, .slice a2 cols.length c2] 44)).trans HX4.out)
      clear hown' hgrow hown2
      go_wp2
      go_ret2
      refine RAddPost.more HA.out ?_ (fun b o h=> ?_) HEW4.out
      ·exact ⟨Sl.of_owns (base:=w.heap.size+1) (e:=44) (by rw [List.length_map];exact HO4.out) (RR.len _),fun x hx=>(insP_mem hx).elim (fun e=>by rw [e];exact HQ.out.ext HEW4.out) (fun h=>(HL.out.sl x h).ext HEW4.out)⟩
      ·have:=(HO4.out.lt b (by rw [h];rfl)).1
       omega
def upP (ps:List RR):Nat→List RR
 |0=> []
 |k+1=>if h:k<ps.length then addP (upP ps k) ps[k] else upP ps k
theorem upP_succ {ps:List RR} {k:Nat} (h:k<ps.length):upP ps (k+1)=addP (upP ps k) ps[k]:=by
 conv=>lhs;unfold upP
 rw [dif_pos h]
theorem upP_r (ps:List RR):∀k,(upP ps k).map RR.r=ofUp (ps.map RR.r) k
 |0=>rfl
 |k+1=>by
  unfold upP ofUp
  by_cases h:k<ps.length
  ·rw [dif_pos h,dif_pos (by rw [List.length_map];exact h),addP_r,upP_r ps k,List.getElem_map]
  ·rw [dif_neg h,dif_neg (by rw [List.length_map];exact h)]
   exact upP_r ps k
theorem upP_64 (ps:List RR) (k:Nat):(upP ps k).length≤64:=by
 have:=(ofUp_ok (ps.map RR.r) k).n64
 rw [←upP_r,List.length_map] at this
 exact this
theorem ofAt_P {ps:List RR} {k:Nat} (h:k<ps.length):ofAt (ps.map RR.r) k=addE ((upP ps k).map RR.r) ps[k].r:=by
 unfold ofAt
 rw [dif_pos (by rw [List.length_map];exact h),upP_r,List.getElem_map]
def ofE (l:List Rl):Int:=firstE (ofAt l) l.length
def plE (f:Nat→Int):Nat→Nat
 |0=>0
 |n+1=>if firstE f n≠0 then plE f n else if f n≠0 then n else n+1
theorem plE_zero {f:Nat→Int} :∀ {n:Nat},(∀i,i<n→f i=0)→plE f n=n
 |0,_=>rfl
 |n+1,h=>by
  unfold plE
  rw [if_neg (by rw [firstE_zero (fun i hi=>h i (by omega))];simp),if_neg (by rw [h n (by omega)];simp)]
theorem plE_at {f:Nat→Int} {k:Nat} (h:∀i,i<k→f i=0) (h0:f k≠0):∀ {n:Nat},k<n→plE f n=k
 |0,hk=>by omega
 |n+1,hk=>by
  unfold plE
  by_cases e:k=n
  ·subst e
   rw [if_neg (by rw [firstE_zero h];simp),if_pos h0]
  ·rw [if_pos (by rw [firstE_at h (show k<n by omega) h0];exact h0),plE_at h h0 (by omega)]
def ofPl (l:List Rl):Nat:=plE (ofAt l) l.length
def ROfPost (ps:List RR) (w:World) (e:Ending) (w' :World):Prop:=
 ∃a' c' n,e= .returned (.tuple #[.slice a' n c', .int .i64 (ofPl (ps.map RR.r):Nat), .int .i64 (ofE (ps.map RR.r))])∧(ofE (ps.map RR.r)=0→n=(upP ps ps.length).length∧RL w' (.slice a' n c') (upP ps ps.length))∧(ofE (ps.map RR.r)≠0→a' =none∧n=0∧c' =0)∧Ext w w'
theorem rof_any (ps:List RR) (a:Option Addr) (cap:Nat) (w:World) (hl:RL w (.slice a ps.length cap) ps) (hb:∀p∈ps,p.r.wb) (hlen:ps.length≤9223372036854775807):
 Calls Tryz.prog 15 #[.slice a ps.length cap] w (ROfPost ps w):=by
 have HL:=Hm hl
 have HB:=Hm hb
 clear hl hb
 go_enter Tryz.func15,Tryz.ntmps15
 go_wp2
 go_loopw [5,6] (fun v i wr=>∃(k:Nat) (a' :Option Addr) (c' :Nat),k≤ps.length∧i= .int .i64 k∧v= .slice a' (upP ps k).length c'∧Hid (∀j,j<k→ofAt (ps.map RR.r) j=0)∧Hid (RL wr (.slice a' (upP ps k).length c') (upP ps k))∧Hid (Ext w wr)) (fun _ i _=>ps.length - (intOf i).toNat)
 case atStart=>exact ⟨0,none,0,Nat.zero_le _,rfl,rfl,Hm (fun j h=>by omega),Hm (RL.nil _),Hm (Ext.refl _)⟩
 case round=>
  obtain ⟨k,a',c',hk,rfl,rfl,hz,hr,hE⟩:=hrel
  by_cases hlt:k<ps.length
  ·obtain ⟨b,o,rfl,hb,hx⟩:=HL.out.row.at_ (i:=k) (by simpa using hlt)
   obtain ⟨f0,f1,f2,f3,f4⟩:=RR.at_ hlt hx hb hE.out
   have hbw:b<wr.heap.size:=Nat.lt_of_lt_of_le hb hE.out.size
   have hin:=HL.out.sl _ (List.getElem_mem hlt)
   have hwb:=HB.out _ (List.getElem_mem hlt)
   have HS:=Hm (upP_succ hlt)
   have HAT:=Hm (ofAt_P hlt)
   obtain ⟨p,hp⟩:∃p,p=ps[k]:=⟨_,rfl⟩
   rw [←hp] at f0 f1 f2 f3 f4 hin hwb HS HAT
   have HAD:=Hm (fun W (h:Ext wr W)=>radd_any (upP ps k) a' c' p W (hr.out.ext h) (hin.ext (hE.out.trans h)) hwb (by have:=upP_64 ps k;omega))
   unfold RAddPost RR.agg at HAD
   rw [←HS.out,←HAT.out] at HAD
   clear hx hp hin hwb
   obtain ⟨E,hEE⟩:∃E,E=ofAt (ps.map RR.r) k:=⟨_,rfl⟩
   rw [←hEE] at HAD
   by_cases h0:E=0
   ·have H0:=Hm (hEE.symm.trans h0)
    subst h0
    clear hEE
    go_wp2_with (go_at_call 29;refine (HAD.out _ (Ext.refl _)).mono ?_;rintro e w1 ⟨a1,c1,rfl,hl1, -,hb1⟩;have HL1:=Hm hl1;clear hl1)
    go_roundw
    case rel=>exact ⟨k+1,a1,c1,by omega,by go_num,rfl,Hm (fun j hj=>by
     by_cases e:j=k
     ·subst e;exact H0.out
     ·exact hz.out j (by omega)),HL1,Hm (hE.out.trans hb1)⟩
    case measure=>simp [intOf];omega
   ·have h0' :(E !=0)=true:=by simpa using h0
    have HF:=Hm (show ofE (ps.map RR.r)=E by unfold ofE;rw [firstE_at hz.out (by rw [List.length_map];exact hlt) (by rw [←hEE];exact h0),hEE])
    have HPL:=Hm (show ofPl (ps.map RR.r)=k from plE_at hz.out (by rw [←hEE];exact h0) (by rw [List.length_map];exact hlt))
    have H0:=Hm h0
    clear h0 hEE
    go_wp2_with (go_at_call 29;refine (HAD.out _ (Ext.refl _)).mono ?_;rintro e w1 ⟨a1,c1,rfl, -, -,hb1⟩)
    go_ret3
    exact ⟨none,0,0,by rw [HF.out,HPL.out];rfl,fun h=>absurd (HF.out.symm.trans h) H0.out,fun _=>⟨rfl,rfl,rfl⟩,hE.out.trans hb1⟩
  ·obtain rfl:k=ps.length:=by omega
   have HF:=Hm (show ofE (ps.map RR.r)=0 by unfold ofE;exact firstE_zero (by rw [List.length_map];exact hz.out))
   have HPL:=Hm (show ofPl (ps.map RR.r)=ps.length by unfold ofPl;rw [plE_zero (by rw [List.length_map];exact hz.out),List.length_map])
   go_wp2
   go_ret3
   exact ⟨a',c',_,by rw [HF.out,HPL.out];rfl,fun _=>⟨rfl,hr.out⟩,fun h=>absurd HF.out h,hE.out⟩
end Go.Proofs.YtgmphpccpfaapaaGreatDoor
