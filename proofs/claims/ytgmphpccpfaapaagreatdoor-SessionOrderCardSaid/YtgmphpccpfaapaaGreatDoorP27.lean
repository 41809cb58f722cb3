/-
A commit's message parsed: the program's answer.
-/
import Derived.Test.YtgmphpccpfaapaaGreatDoorP26
set_option maxRecDepth 100000
set_option maxHeartbeats 16000000
namespace Go.Proofs.YtgmphpccpfaapaaGreatDoor
open Go.RowKit
theorem stC {W:World} {b:Nat} (h:Blk W b #[.int .u8 0, .int .u32 0, .int .u64 0, .int .u32 0, .int .u32 0, .int .u32 0, .string ⟨#[]⟩, .int .u8 0, .slice none 0 0, .int .u8 0, .int .u32 0, .int .u32 0, .int .u8 0, .slice none 0 0, .slice none 0 0, .slice none 0 0, .int .u8 0] 79):∃w5,(Instr.storeAt 79 (.pointer (some ⟨b,0,none⟩)) (.agg #[.int .u8 67, .int .u32 5, .int .u64 0, .int .u32 0, .int .u32 0, .int .u32 0, .string ⟨#[]⟩, .int .u8 0, .slice none 0 0, .int .u8 0, .int .u32 0, .int .u32 0, .int .u8 0, .slice none 0 0, .slice none 0 0, .slice none 0 0, .int .u8 0])).run Tryz.prog W= .ok () w5∧Blk w5 b #[.int .u8 67, .int .u32 5, .int .u64 0, .int .u32 0, .int .u32 0, .int .u32 0, .string ⟨#[]⟩, .int .u8 0, .slice none 0 0, .int .u8 0, .int .u32 0, .int .u32 0, .int .u8 0, .slice none 0 0, .slice none 0 0, .slice none 0 0, .int .u8 0] 79∧Kp (fun k=>k=b) W w5:=
 ⟨_,store17 h,Blk.c17 h,Kp.w17 (Kp.refl (S:=fun k=>k=b)) rfl⟩
theorem parseC_any (bb o cp M g:Nat) (c:Value) (ps:List RR) (w:World) (hs:Sl w (.slice (some ⟨bb,o,none⟩) 13 cp) 1 (msgC1.map bcell)) (hcp:13≤cp) (hk:Kin w) (hc:Ca w M g c ps):
 Calls Tryz.prog 77 #[.pointer (some ⟨g,0,none⟩), .slice (some ⟨bb,o,none⟩) 13 cp] w fun e w' =>e= .returned (.tuple #[(mlC 5 0).agg, .int .i64 13, .int .i64 0])∧Ext w w' :=by
 have HLN:=Hm (fun W (h:Ext w W)=>show Calls Tryz.prog 105 #[.slice (some ⟨bb,o,none⟩) 13 cp] W (fun e w' =>e= .returned (.tuple #[.int .i64 13, .int .i64 0])∧W=w') from wlength_any bb o cp msgC1 67 8 W (hs.ext h) (by decide) hcp (by decide) msgC1_b rfl (by decide) (by decide+kernel) (by decide) (by decide))
 have HBD:=Hm (fun W (h:Ext w W)=>show Calls Tryz.prog 106 #[.pointer (some ⟨g,0,none⟩), .int .u8 67, .slice (some ⟨bb,o+5,none⟩) 8 (cp - 5)] W (fun e w' =>e= .returned (.tuple #[.agg #[.int .u8 67, .int .u32 5, .int .u64 0, .int .u32 0, .int .u32 0, .int .u32 0, .string ⟨#[]⟩, .int .u8 0, .slice none 0 0, .int .u8 0, .int .u32 0, .int .u32 0, .int .u8 0, .slice none 0 0, .slice none 0 0, .slice none 0 0, .int .u8 0], .int .i64 0])∧Ext W w') from bodyC_any bb (o+5) (cp - 5) M g c ps W ((sl_take (l:=msgC1.drop 5) (m:=8) (c:=cp - 5) (sl_drop (l:=msgC1) (m:=5) hs (by decide)) (by decide)).ext h) (by omega) (hk.ext h) (hc.ext h))
 have hd:=bcell_sl hs (by decide)
 have d0:w.cell? ⟨bb,o,none⟩=some (.int .u8 67):=hd.1
 have hbb:=hd.2
 have hcp5:((cp:Int) - 5).toNat=cp - 5:=by omega
 have hc0: ¬ cp=5:=by omega
 have hcpm:(13:Int)≤(cp:Int):=by omega
 clear hs hk hc hd
 go_enter Tryz.func77,Tryz.ntmps77
 go_upto_region 6 with (go_at_call 105;refine (HLN.out _ (by exact eX)).mono ?_;rintro e w1 ⟨rfl,rfl⟩)
 have HZ1:Hid (Blk (w.alloc (.cells #[.int .u8 0, .int .u32 0, .int .u64 0, .int .u32 0, .int .u32 0, .int .u32 0, .string ⟨#[]⟩, .int .u8 0, .slice none 0 0, .int .u8 0, .int .u32 0, .int .u32 0, .int .u8 0, .slice none 0 0, .slice none 0 0, .slice none 0 0, .int .u8 0] 79)) w.heap.size #[.int .u8 0, .int .u32 0, .int .u64 0, .int .u32 0, .int .u32 0, .int .u32 0, .string ⟨#[]⟩, .int .u8 0, .slice none 0 0, .int .u8 0, .int .u32 0, .int .u32 0, .int .u8 0, .slice none 0 0, .slice none 0 0, .slice none 0 0, .int .u8 0] 79):=Hm (Blk.new _ _ _)
 have HE1:Hid (Ext w (w.alloc (.cells #[.int .u8 0, .int .u32 0, .int .u64 0, .int .u32 0, .int .u32 0, .int .u32 0, .string ⟨#[]⟩, .int .u8 0, .slice none 0 0, .int .u8 0, .int .u32 0, .int .u32 0, .int .u8 0, .slice none 0 0, .slice none 0 0, .slice none 0 0, .int .u8 0] 79))):=Hm ((Ext.refl w).alloc _)
 have d1:=(HE1.out.cells.1 bb o hbb).trans d0
 have hb1:bb<(w.alloc (.cells #[.int .u8 0, .int .u32 0, .int .u64 0, .int .u32 0, .int .u32 0, .int .u32 0, .string ⟨#[]⟩, .int .u8 0, .slice none 0 0, .int .u8 0, .int .u32 0, .int .u32 0, .int .u8 0, .slice none 0 0, .slice none 0 0, .slice none 0 0, .int .u8 0] 79)).heap.size:=Nat.lt_of_lt_of_le hbb HE1.out.size
 obtain ⟨w1,hw1⟩:∃W,W=w.alloc (.cells #[.int .u8 0, .int .u32 0, .int .u64 0, .int .u32 0, .int .u32 0, .int .u32 0, .string ⟨#[]⟩, .int .u8 0, .slice none 0 0, .int .u8 0, .int .u32 0, .int .u32 0, .int .u8 0, .slice none 0 0, .slice none 0 0, .slice none 0 0, .int .u8 0] 79):=⟨_,rfl⟩
 rw [←hw1] at HZ1 HE1 d1 hb1⊢
 clear hw1 d0
 go_cut [8,9] (fun e p wx=>e= .int .i64 0∧∃X,p= .pointer (some ⟨X,0,none⟩)∧Hid (Blk wx X #[.int .u8 67, .int .u32 5, .int .u64 0, .int .u32 0, .int .u32 0, .int .u32 0, .string ⟨#[]⟩, .int .u8 0, .slice none 0 0, .int .u8 0, .int .u32 0, .int .u32 0, .int .u8 0, .slice none 0 0, .slice none 0 0, .slice none 0 0, .int .u8 0] 79)∧Hid (Blk wx w.heap.size #[.int .u8 0, .int .u32 0, .int .u64 0, .int .u32 0, .int .u32 0, .int .u32 0, .string ⟨#[]⟩, .int .u8 0, .slice none 0 0, .int .u8 0, .int .u32 0, .int .u32 0, .int .u8 0, .slice none 0 0, .slice none 0 0, .slice none 0 0, .int .u8 0] 79)∧Hid (Ext w wx))
 case first=>
  refine wp_region_head 13 (fun w' =>Ext (w1) w'∧(∀b o,b<(w1).heap.size→w'.cell? ⟨b,o,none⟩=(w1).cell? ⟨b,o,none⟩)∧(∀b o,b<(w1).heap.size→w'.frozen? ⟨b,o,none⟩=(w1).frozen? ⟨b,o,none⟩)) (by kernel_rfl) (by decide) ?_
  have hA0:Hid ((fun w' =>Ext (w1) w'∧(∀b o,b<(w1).heap.size→w'.cell? ⟨b,o,none⟩=(w1).cell? ⟨b,o,none⟩)∧(∀b o,b<(w1).heap.size→w'.frozen? ⟨b,o,none⟩=(w1).frozen? ⟨b,o,none⟩)) w1.drew):=held_of (by exact eX)
  refine HG.on 0 27 hA0.out ?_
  try simp only [Act.put,List.setIfInBounds_toArray,List.set_cons_zero,List.set_cons_succ]
  refine HG.on 1 28 hA0.out ?_
  try simp only [Act.put,List.setIfInBounds_toArray,List.set_cons_zero,List.set_cons_succ]
  refine HG.on 2 29 hA0.out ?_
  try simp only [Act.put,List.setIfInBounds_toArray,List.set_cons_zero,List.set_cons_succ]
  refine HG.on 3 30 hA0.out ?_
  try simp only [Act.put,List.setIfInBounds_toArray,List.set_cons_zero,List.set_cons_succ]
  refine HG.on 4 31 hA0.out ?_
  try simp only [Act.put,List.setIfInBounds_toArray,List.set_cons_zero,List.set_cons_succ]
  refine HG.on 5 32 hA0.out ?_
  try simp only [Act.put,List.setIfInBounds_toArray,List.set_cons_zero,List.set_cons_succ]
  refine HG.on 6 33 hA0.out ?_
  try simp only [Act.put,List.setIfInBounds_toArray,List.set_cons_zero,List.set_cons_succ]
  refine wpHd_two (i:=7) (j:=11) rfl rfl rfl rfl (by kernel_rfl) (fun KK hK=> ?_) (fun KK hK=> ?_)
  ·go_simp
   refine (HBD.out _ (by have:=HE1.out;exact eX)).mono ?_
   rintro e w3 ⟨rfl,hb3⟩
   have HX3:=Hm (show Ext w1 w3 by exact eX)
   refine hK.out _ _ (held_of HX3.out) (fun hA=> ?_)
   clear hK KK hA hA0 hb3
   have hA0:Hid ((fun w' =>Ext (w1) w'∧(∀b o,b<(w1).heap.size→w'.cell? ⟨b,o,none⟩=(w1).cell? ⟨b,o,none⟩)∧(∀b o,b<(w1).heap.size→w'.frozen? ⟨b,o,none⟩=(w1).frozen? ⟨b,o,none⟩)) w3):=held_of HX3.out
   refine HG.on 8 26 hA0.out ?_
   try simp only [Act.put,List.setIfInBounds_toArray,List.set_cons_zero,List.set_cons_succ]
   refine HG.on 9 35 hA0.out ?_
   try simp only [Act.put,List.setIfInBounds_toArray,List.set_cons_zero,List.set_cons_succ]
   refine HG.on 10 36 hA0.out ?_
   try simp only [Act.put,List.setIfInBounds_toArray,List.set_cons_zero,List.set_cons_succ]
   refine wpHd_one (i:=11) rfl rfl (by kernel_rfl) (fun KK hK=> ?_)
   go_simp
   have HX4:=Hm (show Blk (w3.alloc (.cells #[.int .u8 0, .int .u32 0, .int .u64 0, .int .u32 0, .int .u32 0, .int .u32 0, .string ⟨#[]⟩, .int .u8 0, .slice none 0 0, .int .u8 0, .int .u32 0, .int .u32 0, .int .u8 0, .slice none 0 0, .slice none 0 0, .slice none 0 0, .int .u8 0] 79)) w3.heap.size #[.int .u8 0, .int .u32 0, .int .u64 0, .int .u32 0, .int .u32 0, .int .u32 0, .string ⟨#[]⟩, .int .u8 0, .slice none 0 0, .int .u8 0, .int .u32 0, .int .u32 0, .int .u8 0, .slice none 0 0, .slice none 0 0, .slice none 0 0, .int .u8 0] 79 from Blk.new _ _ _)
   have HE4:=Hm (show Ext w1 (w3.alloc (.cells #[.int .u8 0, .int .u32 0, .int .u64 0, .int .u32 0, .int .u32 0, .int .u32 0, .string ⟨#[]⟩, .int .u8 0, .slice none 0 0, .int .u8 0, .int .u32 0, .int .u32 0, .int .u8 0, .slice none 0 0, .slice none 0 0, .slice none 0 0, .int .u8 0] 79)) from HX3.out.alloc _)
   refine hK.out _ _ (held_of HE4.out) (fun hA=> ?_)
   clear hK KK hA hA0
   obtain ⟨X,hX⟩:∃X,X=w3.heap.size:=⟨_,rfl⟩
   have hXl:w1.heap.size≤X:=by rw [hX];exact HX3.out.size
   obtain ⟨w4,hw4⟩:∃W,W=w3.alloc (.cells #[.int .u8 0, .int .u32 0, .int .u64 0, .int .u32 0, .int .u32 0, .int .u32 0, .string ⟨#[]⟩, .int .u8 0, .slice none 0 0, .int .u8 0, .int .u32 0, .int .u32 0, .int .u8 0, .slice none 0 0, .slice none 0 0, .slice none 0 0, .int .u8 0] 79):=⟨_,rfl⟩
   rw [←hX,←hw4] at HX4
   rw [←hw4] at HE4
   rw [←hX,←hw4]
   clear hX hw4
   obtain ⟨w5,hst,hx5,hk5⟩:=stC HX4.out
   have HX5:=Hm hx5
   have HK5:=Hm hk5
   refine wpHd_one (i:=12) rfl rfl (by kernel_rfl) (fun KK hK=> ?_)
   refine wp_store_to 79 (.tmp 9) (.tmp 35) rfl _ _ (by go_simp) (by go_simp) hst ?_
   have HE5:=Hm (Kp.ext HE4.out (fun x hx _=>by have h2:x=X:=hx;omega) HK5.out)
   refine hK.out _ _ (held_of HE5.out) (fun hA=> ?_)
   clear hK KK hA hst hx5 hk5
   refine wpHd_tail (by kernel_rfl) ?_
   simp only [List.drop_succ_cons,List.drop_zero]
   go_wp2
   go_meet
   case rel=>exact ⟨rfl,X,rfl,HX5,Hm ((HZ1.out.ext HE4.out).kp HK5.out (show ¬ w.heap.size=X by have:=HZ1.out.lt;omega)),Hm (HE1.out.trans HE5.out)⟩
  ·go_simp
   have HX2:=Hm (show Blk ((w1.alloc (.cells #[.int .u8 0, .int .u32 0, .int .u64 0, .int .u32 0, .int .u32 0, .int .u32 0, .string ⟨#[]⟩, .int .u8 0, .slice none 0 0, .int .u8 0, .int .u32 0, .int .u32 0, .int .u8 0, .slice none 0 0, .slice none 0 0, .slice none 0 0, .int .u8 0] 79)).drew) w1.heap.size #[.int .u8 0, .int .u32 0, .int .u64 0, .int .u32 0, .int .u32 0, .int .u32 0, .string ⟨#[]⟩, .int .u8 0, .slice none 0 0, .int .u8 0, .int .u32 0, .int .u32 0, .int .u8 0, .slice none 0 0, .slice none 0 0, .slice none 0 0, .int .u8 0] 79 from Blk.drew (Blk.new _ _ _))
   have HE2:=Hm (show Ext w1 ((w1.alloc (.cells #[.int .u8 0, .int .u32 0, .int .u64 0, .int .u32 0, .int .u32 0, .int .u32 0, .string ⟨#[]⟩, .int .u8 0, .slice none 0 0, .int .u8 0, .int .u32 0, .int .u32 0, .int .u8 0, .slice none 0 0, .slice none 0 0, .slice none 0 0, .int .u8 0] 79)).drew) from ((Ext.refl w1).alloc _).drew)
   refine hK.out _ _ (held_of HE2.out) (fun hA=> ?_)
   clear hK KK hA hA0
   obtain ⟨w2,hw2⟩:∃W,W=(w1.alloc (.cells #[.int .u8 0, .int .u32 0, .int .u64 0, .int .u32 0, .int .u32 0, .int .u32 0, .string ⟨#[]⟩, .int .u8 0, .slice none 0 0, .int .u8 0, .int .u32 0, .int .u32 0, .int .u8 0, .slice none 0 0, .slice none 0 0, .slice none 0 0, .int .u8 0] 79)).drew:=⟨_,rfl⟩
   rw [←hw2] at HX2
   rw [←hw2] at HE2
   rw [←hw2]
   clear hw2
   refine wpHd_one (i:=7) rfl rfl (by kernel_rfl) (fun KK hK=> ?_)
   go_simp
   refine (HBD.out _ (HE1.out.trans HE2.out)).mono ?_
   rintro e w4 ⟨rfl,hb3⟩
   have HX4:=Hm (HX2.out.ext hb3)
   have HE4:=Hm (HE2.out.trans hb3)
   refine hK.out _ _ (held_of HE4.out) (fun hA=> ?_)
   clear hK KK hA hb3
   have hA0:Hid ((fun w' =>Ext (w1) w'∧(∀b o,b<(w1).heap.size→w'.cell? ⟨b,o,none⟩=(w1).cell? ⟨b,o,none⟩)∧(∀b o,b<(w1).heap.size→w'.frozen? ⟨b,o,none⟩=(w1).frozen? ⟨b,o,none⟩)) w4):=held_of HE4.out
   refine HG.on 8 26 hA0.out ?_
   try simp only [Act.put,List.setIfInBounds_toArray,List.set_cons_zero,List.set_cons_succ]
   refine HG.on 9 35 hA0.out ?_
   try simp only [Act.put,List.setIfInBounds_toArray,List.set_cons_zero,List.set_cons_succ]
   refine HG.on 10 36 hA0.out ?_
   try simp only [Act.put,List.setIfInBounds_toArray,List.set_cons_zero,List.set_cons_succ]
   clear hA0
   obtain ⟨w5,hst,hx5,hk5⟩:=stC HX4.out
   have HX5:=Hm hx5
   have HK5:=Hm hk5
   refine wpHd_one (i:=12) rfl rfl (by kernel_rfl) (fun KK hK=> ?_)
   refine wp_store_to 79 (.tmp 9) (.tmp 35) rfl _ _ (by go_simp) (by go_simp) hst ?_
   have HE5:=Hm (Kp.ext HE4.out (fun x hx _=>by have h2:x=w1.heap.size:=hx;omega) HK5.out)
   refine hK.out _ _ (held_of HE5.out) (fun hA=> ?_)
   clear hK KK hA hst hx5 hk5
   refine wpHd_tail (by kernel_rfl) ?_
   simp only [List.drop_succ_cons,List.drop_zero]
   go_wp2
   go_meet
   case rel=>exact ⟨rfl,w1.heap.size,rfl,HX5,Hm ((HZ1.out.ext HE4.out).kp HK5.out (show ¬ w.heap.size=w1.heap.size by have:=HZ1.out.lt;omega)),Hm (HE1.out.trans HE5.out)⟩
 case rest=>
  obtain ⟨rfl,X,rfl,HX6,HZ6,HE6⟩:=hcut
  obtain ⟨w7,hst,hx7,hk7⟩:=stC HZ6.out
  clear d1 hb1
  as_aux_lemma=>
   go_wp2_with (first
    |(refine wpList_load_to rfl 79 (.tmp 9) rfl _ _ ?e1 (load17 HX6.out) ?_;(case e1=>go_simp))
    |(refine wpList_store_to rfl 79 (.tmp 4) (.tmp 41) rfl _ _ ?e1 ?e2 hst ?_;(case e1=>go_simp);(case e2=>go_simp)))
   as_aux_lemma=>
    exact bodyPost_ret (res_wparse hx7 rfl rfl rfl) rfl ⟨rfl,Kp.ext HE6.out (fun x hx _=>by have h2:x=w.heap.size:=hx;omega) hk7⟩
theorem begin_any (rv kg:Nat) (w:World) (h:Blk w rv #[.pointer (some ⟨kg,0,none⟩), .int .u32 0, .pointer none, .slice none 0 0] 168):
 Calls Tryz.prog 79 #[.pointer (some ⟨rv,0,none⟩), .agg #[.int .u8 66, .int .u32 5, .int .u64 0, .int .u32 0, .int .u32 0, .int .u32 0, .string ⟨#[]⟩, .int .u8 0, .slice none 0 0, .int .u8 0, .int .u32 0, .int .u32 0, .int .u8 0, .slice none 0 0, .slice none 0 0, .slice none 0 0, .int .u8 0]] w fun e w' =>∃tb,e= .returned (.int .i64 0)∧Blk w' tb #[.int .u32 5, .int .u64 0, .slice none 0 0] 84∧Blk w' rv #[.pointer (some ⟨kg,0,none⟩), .int .u32 0, .pointer (some ⟨tb,0,none⟩), .slice none 0 0] 168∧Kp (fun k=>k=rv) w w' :=by
 have HR:=Hm (h.ext (show Ext w (w.alloc (.cells #[.int .u8 66, .int .u32 5, .int .u64 0, .int .u32 0, .int .u32 0, .int .u32 0, .string ⟨#[]⟩, .int .u8 0, .slice none 0 0, .int .u8 0, .int .u32 0, .int .u32 0, .int .u8 0, .slice none 0 0, .slice none 0 0, .slice none 0 0, .int .u8 0] 79)) from (Ext.refl w).alloc _))
 have HM:=Hm (Blk.new w #[.int .u8 66, .int .u32 5, .int .u64 0, .int .u32 0, .int .u32 0, .int .u32 0, .string ⟨#[]⟩, .int .u8 0, .slice none 0 0, .int .u8 0, .int .u32 0, .int .u32 0, .int .u8 0, .slice none 0 0, .slice none 0 0, .slice none 0 0, .int .u8 0] 79)
 have HE:=Hm (show Ext w (w.alloc (.cells #[.int .u8 66, .int .u32 5, .int .u64 0, .int .u32 0, .int .u32 0, .int .u32 0, .string ⟨#[]⟩, .int .u8 0, .slice none 0 0, .int .u8 0, .int .u32 0, .int .u32 0, .int .u8 0, .slice none 0 0, .slice none 0 0, .slice none 0 0, .int .u8 0] 79)) from (Ext.refl w).alloc _)
 have hrv:=h.lt
 clear h
 go_enter Tryz.func79,Tryz.ntmps79
 go_upto_region 1 with (fail)
 obtain ⟨w1,hw1⟩:∃W,W=w.alloc (.cells #[.int .u8 66, .int .u32 5, .int .u64 0, .int .u32 0, .int .u32 0, .int .u32 0, .string ⟨#[]⟩, .int .u8 0, .slice none 0 0, .int .u8 0, .int .u32 0, .int .u32 0, .int .u8 0, .slice none 0 0, .slice none 0 0, .slice none 0 0, .int .u8 0] 79):=⟨_,rfl⟩
 rw [←hw1] at HR HM HE⊢
 have hz1:w.heap.size<w1.heap.size:=HM.out.lt
 clear hw1
 have r0:=HR.out.cell
 have rz:=HR.out.lt
 have m0:=HM.out.cell
 have mz:=HM.out.lt
 go_region_held3 (fun w' =>Ext (w1) w'∧(∀b o,b<(w1).heap.size→w'.cell? ⟨b,o,none⟩=(w1).cell? ⟨b,o,none⟩)∧(∀b o,b<(w1).heap.size→w'.frozen? ⟨b,o,none⟩=(w1).frozen? ⟨b,o,none⟩)) ((exact held_of (by exact eX))) (fail)
 have HE2:=Hm (show Ext w w1.drew from HE.out.drew)
 have HR2:=Hm (show Blk w1.drew rv _ 168 from Blk.drew HR.out)
 have HM2:=Hm (show Blk w1.drew w.heap.size #[.int .u8 66, .int .u32 5, .int .u64 0, .int .u32 0, .int .u32 0, .int .u32 0, .string ⟨#[]⟩, .int .u8 0, .slice none 0 0, .int .u8 0, .int .u32 0, .int .u32 0, .int .u8 0, .slice none 0 0, .slice none 0 0, .slice none 0 0, .int .u8 0] 79 from Blk.drew HM.out)
 clear r0 rz m0 mz HR HM HE
 obtain ⟨w2,hw2⟩:∃W,W=w1.drew:=⟨_,rfl⟩
 rw [←hw2] at HE2 HR2 HM2⊢
 have hz2:w.heap.size<w2.heap.size:=HM2.out.lt
 clear hw2
 have r0:=HR2.out.cell
 have rf:=HR2.out.frozen
 have rz:=HR2.out.lt
 have m0:=HM2.out.cell
 have mz:=HM2.out.lt
 go_wp2
 have hb1:Blk ((w2.setCell ⟨rv,2,none⟩ (.pointer (some ⟨w2.heap.size,0,none⟩))).alloc (.cells #[.int .u32 5, .int .u64 0, .slice none 0 0] 84)) w2.heap.size #[.int .u32 5, .int .u64 0, .slice none 0 0] 84:=Blk.new' _ _ (by simp)
 have hb2:Blk ((w2.setCell ⟨rv,2,none⟩ (.pointer (some ⟨w2.heap.size,0,none⟩))).alloc (.cells #[.int .u32 5, .int .u64 0, .slice none 0 0] 84)) rv #[.pointer (some ⟨kg,0,none⟩), .int .u32 0, .pointer (some ⟨w2.heap.size,0,none⟩), .slice none 0 0] 168:=by
  have h:=(HR2.out.set 2 (.pointer (some ⟨w2.heap.size,0,none⟩))).alloc (.cells #[.int .u32 5, .int .u64 0, .slice none 0 0] 84)
  simpa using h
 have hk:Kp (fun k=>k=rv) w ((w2.setCell ⟨rv,2,none⟩ (.pointer (some ⟨w2.heap.size,0,none⟩))).alloc (.cells #[.int .u32 5, .int .u64 0, .slice none 0 0] 84)):=((Kp.of_ext (S:=fun k=>k=rv) HE2.out).trans (Kp.set (S:=fun k=>k=rv) _ _ rfl) (fun _ h _=>h)).trans (Kp.of_ext ((Ext.refl _).alloc _)) (fun _ h _=>h)
 clear r0 rf rz m0 mz
 go_ret
 exact ⟨_,rfl,hb1,hb2,hk⟩
theorem commit_any (rv kg tb:Nat) (w:World) (h:Blk w rv #[.pointer (some ⟨kg,0,none⟩), .int .u32 0, .pointer (some ⟨tb,0,none⟩), .slice none 0 0] 168) (ht:Blk w tb #[.int .u32 5, .int .u64 0, .slice none 0 0] 84):
 Calls Tryz.prog 81 #[.pointer (some ⟨rv,0,none⟩), .agg #[.int .u8 67, .int .u32 5, .int .u64 0, .int .u32 0, .int .u32 0, .int .u32 0, .string ⟨#[]⟩, .int .u8 0, .slice none 0 0, .int .u8 0, .int .u32 0, .int .u32 0, .int .u8 0, .slice none 0 0, .slice none 0 0, .slice none 0 0, .int .u8 0]] w fun e w' =>e= .returned (.int .i64 0)∧Ext w w' :=by
 have HR:=Hm (h.ext (show Ext w (w.alloc (.cells #[.int .u8 67, .int .u32 5, .int .u64 0, .int .u32 0, .int .u32 0, .int .u32 0, .string ⟨#[]⟩, .int .u8 0, .slice none 0 0, .int .u8 0, .int .u32 0, .int .u32 0, .int .u8 0, .slice none 0 0, .slice none 0 0, .slice none 0 0, .int .u8 0] 79)) from (Ext.refl w).alloc _))
 have HT:=Hm (ht.ext (show Ext w (w.alloc (.cells #[.int .u8 67, .int .u32 5, .int .u64 0, .int .u32 0, .int .u32 0, .int .u32 0, .string ⟨#[]⟩, .int .u8 0, .slice none 0 0, .int .u8 0, .int .u32 0, .int .u32 0, .int .u8 0, .slice none 0 0, .slice none 0 0, .slice none 0 0, .int .u8 0] 79)) from (Ext.refl w).alloc _))
 have HM:=Hm (Blk.new w #[.int .u8 67, .int .u32 5, .int .u64 0, .int .u32 0, .int .u32 0, .int .u32 0, .string ⟨#[]⟩, .int .u8 0, .slice none 0 0, .int .u8 0, .int .u32 0, .int .u32 0, .int .u8 0, .slice none 0 0, .slice none 0 0, .slice none 0 0, .int .u8 0] 79)
 have HE:=Hm (show Ext w (w.alloc (.cells #[.int .u8 67, .int .u32 5, .int .u64 0, .int .u32 0, .int .u32 0, .int .u32 0, .string ⟨#[]⟩, .int .u8 0, .slice none 0 0, .int .u8 0, .int .u32 0, .int .u32 0, .int .u8 0, .slice none 0 0, .slice none 0 0, .slice none 0 0, .int .u8 0] 79)) from (Ext.refl w).alloc _)
 have hrv:=h.lt
 have htb:=ht.lt
 have hw0:IntKind.i64.wrap 0=0:=by decide
 have c0:=h.cell
 have c0t:=ht.cell
 clear h ht
 go_enter Tryz.func81,Tryz.ntmps81
 go_upto_region 3 with (fail)
 clear c0 c0t
 obtain ⟨w1,hw1⟩:∃W,W=w.alloc (.cells #[.int .u8 67, .int .u32 5, .int .u64 0, .int .u32 0, .int .u32 0, .int .u32 0, .string ⟨#[]⟩, .int .u8 0, .slice none 0 0, .int .u8 0, .int .u32 0, .int .u32 0, .int .u8 0, .slice none 0 0, .slice none 0 0, .slice none 0 0, .int .u8 0] 79):=⟨_,rfl⟩
 rw [←hw1] at HR HM HE HT⊢
 have hz1:w.heap.size<w1.heap.size:=HM.out.lt
 clear hw1
 have r0:=HR.out.cell
 have rz:=HR.out.lt
 have t0:=HT.out.cell
 have tz:=HT.out.lt
 have m0:=HM.out.cell
 have mz:=HM.out.lt
 go_region_held3 (fun w' =>Ext (w1) w'∧(∀b o,b<(w1).heap.size→w'.cell? ⟨b,o,none⟩=(w1).cell? ⟨b,o,none⟩)∧(∀b o,b<(w1).heap.size→w'.frozen? ⟨b,o,none⟩=(w1).frozen? ⟨b,o,none⟩)) ((exact held_of (by exact eX))) (fail)
 clear r0 rz m0 mz t0 tz
 have HE2:=Hm (show Ext w w1.drew from HE.out.drew)
 have HR2:=Hm (show Blk w1.drew rv _ 168 from Blk.drew HR.out)
 have HT2:=Hm (show Blk w1.drew tb _ 84 from Blk.drew HT.out)
 have HM2:=Hm (show Blk w1.drew w.heap.size #[.int .u8 67, .int .u32 5, .int .u64 0, .int .u32 0, .int .u32 0, .int .u32 0, .string ⟨#[]⟩, .int .u8 0, .slice none 0 0, .int .u8 0, .int .u32 0, .int .u32 0, .int .u8 0, .slice none 0 0, .slice none 0 0, .slice none 0 0, .int .u8 0] 79 from Blk.drew HM.out)
 obtain ⟨w2,hw2⟩:∃W,W=w1.drew:=⟨_,rfl⟩
 rw [←hw2] at HE2 HR2 HM2 HT2⊢
 clear hw2 HR HM HE HT hz1
 have hz2:w.heap.size<w2.heap.size:=HM2.out.lt
 have r0:=HR2.out.cell
 have rz:=HR2.out.lt
 have t0:=HT2.out.cell
 have tz:=HT2.out.lt
 have m0:=HM2.out.cell
 have mz:=HM2.out.lt
 go_upto_region 5 with (fail)
 go_region_held3 (fun w' =>Ext (w2) w'∧(∀b o,b<(w2).heap.size→w'.cell? ⟨b,o,none⟩=(w2).cell? ⟨b,o,none⟩)∧(∀b o,b<(w2).heap.size→w'.frozen? ⟨b,o,none⟩=(w2).frozen? ⟨b,o,none⟩)) ((exact held_of (by exact eX))) (fail)
 clear r0 rz m0 mz t0 tz
 go_wp2
 go_ret
 exact ⟨rfl,HE2.out.drew⟩
theorem takeB_any (rv kg bb o cp M:Nat) (c:Value) (ps:List RR) (w:World) (h:Blk w rv #[.pointer (some ⟨kg,0,none⟩), .int .u32 0, .pointer none, .slice none 0 0] 168) (hs:Sl w (.slice (some ⟨bb,o,none⟩) 30 cp) 1 (msgBC.map bcell)) (hcp:30≤cp) (hk:Kin w) (hc:Ca w M kg c ps):
 Calls Tryz.prog 46 #[.pointer (some ⟨rv,0,none⟩), .slice (some ⟨bb,o,none⟩) 30 cp] w fun e w' =>∃tb,e= .returned (.tuple #[.agg #[.int .u32 0, .int .u64 0, .slice none 0 0], .bool false, .int .i64 17, .int .i64 0])∧Blk w' tb #[.int .u32 5, .int .u64 0, .slice none 0 0] 84∧Blk w' rv #[.pointer (some ⟨kg,0,none⟩), .int .u32 0, .pointer (some ⟨tb,0,none⟩), .slice none 0 0] 168∧Kp (fun k=>k=rv) w w' :=by
 have HPA:=Hm (fun W (h:Ext w W)=>show Calls Tryz.prog 77 #[.pointer (some ⟨kg,0,none⟩), .slice (some ⟨bb,o,none⟩) 30 cp] W (fun e w' =>e= .returned (.tuple #[.agg #[.int .u8 66, .int .u32 5, .int .u64 0, .int .u32 0, .int .u32 0, .int .u32 0, .string ⟨#[]⟩, .int .u8 0, .slice none 0 0, .int .u8 0, .int .u32 0, .int .u32 0, .int .u8 0, .slice none 0 0, .slice none 0 0, .slice none 0 0, .int .u8 0], .int .i64 17, .int .i64 0])∧Ext W w') from parseB_any bb o cp M kg c ps W (hs.ext h) hcp (hk.ext h) (hc.ext h))
 have HBG:=Hm (fun W (h:Blk W rv #[.pointer (some ⟨kg,0,none⟩), .int .u32 0, .pointer none, .slice none 0 0] 168)=>begin_any rv kg W h)
 have HR:=Hm h
 have HT0:=Hm (Blk.new w #[.int .u32 0, .int .u64 0, .slice none 0 0] 84)
 have hrv:=h.lt
 have r0:=(h.alloc (.cells #[.int .u32 0, .int .u64 0, .slice none 0 0] 84)).cell
 have rz:=(h.alloc (.cells #[.int .u32 0, .int .u64 0, .slice none 0 0] 84)).lt
 have hmf:∀(fn:Fn) (first cap:Array Value) (w:World),(Instr.makeFunc fn first cap).run Tryz.prog w= .ok (.func fn first cap) w:=fun _ _ _ _=>rfl
 clear h hs hk hc
 go_enter Tryz.func46,Tryz.ntmps46
 go_upto_region 2 with (go_at_call 77;refine (HPA.out _ (by exact eX)).mono ?_;rintro e w1 ⟨rfl,hb1⟩;have HX1:=Hm (show Ext w w1 by exact eX);have HT1:=Hm (HT0.out.ext hb1);clear hb1)
 have HM2:=Hm (Blk.new w1 #[.int .u8 66, .int .u32 5, .int .u64 0, .int .u32 0, .int .u32 0, .int .u32 0, .string ⟨#[]⟩, .int .u8 0, .slice none 0 0, .int .u8 0, .int .u32 0, .int .u32 0, .int .u8 0, .slice none 0 0, .slice none 0 0, .slice none 0 0, .int .u8 0] 79)
 have HX2:=Hm (show Ext w (w1.alloc (.cells #[.int .u8 66, .int .u32 5, .int .u64 0, .int .u32 0, .int .u32 0, .int .u32 0, .string ⟨#[]⟩, .int .u8 0, .slice none 0 0, .int .u8 0, .int .u32 0, .int .u32 0, .int .u8 0, .slice none 0 0, .slice none 0 0, .slice none 0 0, .int .u8 0] 79)) from HX1.out.alloc _)
 have HR2:=Hm (HR.out.ext HX2.out)
 have HT2:=Hm (HT1.out.alloc (.cells #[.int .u8 66, .int .u32 5, .int .u64 0, .int .u32 0, .int .u32 0, .int .u32 0, .string ⟨#[]⟩, .int .u8 0, .slice none 0 0, .int .u8 0, .int .u32 0, .int .u32 0, .int .u8 0, .slice none 0 0, .slice none 0 0, .slice none 0 0, .int .u8 0] 79))
 have hne:w.heap.size<w1.heap.size:=HT1.out.lt
 obtain ⟨X,hX⟩:∃X,X=w1.heap.size:=⟨_,rfl⟩
 obtain ⟨w2,hw2⟩:∃W,W=w1.alloc (.cells #[.int .u8 66, .int .u32 5, .int .u64 0, .int .u32 0, .int .u32 0, .int .u32 0, .string ⟨#[]⟩, .int .u8 0, .slice none 0 0, .int .u8 0, .int .u32 0, .int .u32 0, .int .u8 0, .slice none 0 0, .slice none 0 0, .slice none 0 0, .int .u8 0] 79):=⟨_,rfl⟩
 rw [←hX,←hw2] at HM2
 rw [←hw2] at HX2 HR2 HT2
 rw [←hX,←hw2]
 rw [←hX] at hne
 clear hX hw2 r0 rz HT0 HT1 HX1 HPA HR
 have m0:=HM2.out.cell
 have mz:=HM2.out.lt
 go_wp2_with (first
  |(refine wpList_load_to rfl 79 (.tmp 8) rfl _ _ ?e1 (load17 HM2.out) ?_;(case e1=>go_simp))
  |(go_at_call 79;refine (HBG.out _ HR2.out).mono ?_;rintro e w3 ⟨tb,rfl,hb,hr,hk⟩;have HT3:=Hm hb;have HR3:=Hm hr;have HK3:=Hm hk;have HM3:=Hm (HM2.out.kp hk (show ¬ X=rv by omega));have HZ3:=Hm (HT2.out.kp hk (show ¬ w.heap.size=rv by omega));have m3:=HM3.out.cell;have mz3:=HM3.out.lt;have z3:=HZ3.out.cell;have z3f:=HZ3.out.frozen;have z3z:=HZ3.out.lt;clear hb hr hk m0 mz))
 have hb4:Blk (((w3.setCell ⟨w.heap.size,0,none⟩ (.int .u32 0)).setCell ⟨w.heap.size,1,none⟩ (.int .u64 0)).setCell ⟨w.heap.size,2,none⟩ (.slice none 0 0)) w.heap.size #[.int .u32 0, .int .u64 0, .slice none 0 0] 84:=by
  simpa using ((HZ3.out.set 0 (.int .u32 0)).set 1 (.int .u64 0)).set 2 (.slice none 0 0)
 have hk4:Kp (fun k=>k=w.heap.size) w3 (((w3.setCell ⟨w.heap.size,0,none⟩ (.int .u32 0)).setCell ⟨w.heap.size,1,none⟩ (.int .u64 0)).setCell ⟨w.heap.size,2,none⟩ (.slice none 0 0)):=((Kp.set (S:=fun k=>k=w.heap.size) _ _ rfl).setS rfl _).setS rfl _
 have htn:tb≠w.heap.size:=fun e=>by
  have h1:=HT3.out
  have h2:=HZ3.out
  rw [e] at h1
  unfold Blk at h1 h2
  rw [h1] at h2
  simp at h2
 have hkw:Kp (fun k=>k=rv) w (((w3.setCell ⟨w.heap.size,0,none⟩ (.int .u32 0)).setCell ⟨w.heap.size,1,none⟩ (.int .u64 0)).setCell ⟨w.heap.size,2,none⟩ (.slice none 0 0)):=((((Kp.of_ext (S:=fun k=>k=rv) HX2.out).trans HK3.out (fun _ h _=>h)).setNew (Nat.le_refl _) _).setNew (Nat.le_refl _) _).setNew (Nat.le_refl _) _
 clear m3 mz3 z3 z3f z3z
 obtain ⟨w4,hw4⟩:∃W,W=((w3.setCell ⟨w.heap.size,0,none⟩ (.int .u32 0)).setCell ⟨w.heap.size,1,none⟩ (.int .u64 0)).setCell ⟨w.heap.size,2,none⟩ (.slice none 0 0):=⟨_,rfl⟩
 rw [←hw4] at hb4 hk4 hkw⊢
 clear hw4
 have c0:=hb4.cell 0
 have c1:=hb4.cell 1
 have c2:=hb4.cell 2
 simp at c0 c1 c2
 have HF:=Hm (show Blk w4 tb #[.int .u32 5, .int .u64 0, .slice none 0 0] 84∧Blk w4 rv #[.pointer (some ⟨kg,0,none⟩), .int .u32 0, .pointer (some ⟨tb,0,none⟩), .slice none 0 0] 168∧Kp (fun k=>k=rv) w w4 from ⟨HT3.out.kp hk4 htn,HR3.out.kp hk4 (show ¬ rv=w.heap.size by omega),hkw⟩)
 simp [bodyPost,results,Tryz.results46,go_sem,c0,c1,c2]
 exact ⟨tb,HF.out⟩
theorem takeC_any (rv kg tb bb o cp M:Nat) (c:Value) (ps:List RR) (w:World) (h:Blk w rv #[.pointer (some ⟨kg,0,none⟩), .int .u32 0, .pointer (some ⟨tb,0,none⟩), .slice none 0 0] 168) (ht:Blk w tb #[.int .u32 5, .int .u64 0, .slice none 0 0] 84) (hs:Sl w (.slice (some ⟨bb,o,none⟩) 13 cp) 1 (msgC1.map bcell)) (hcp:13≤cp) (hk:Kin w) (hc:Ca w M kg c ps):
 Calls Tryz.prog 46 #[.pointer (some ⟨rv,0,none⟩), .slice (some ⟨bb,o,none⟩) 13 cp] w fun e w' =>e= .returned (.tuple #[.agg #[.int .u32 5, .int .u64 0, .slice none 0 0], .bool true, .int .i64 13, .int .i64 0])∧Blk w' rv #[.pointer (some ⟨kg,0,none⟩), .int .u32 5, .pointer none, .slice none 0 0] 168∧Kp (fun k=>k=rv) w w' :=by
 have HPA:=Hm (fun W (h:Ext w W)=>show Calls Tryz.prog 77 #[.pointer (some ⟨kg,0,none⟩), .slice (some ⟨bb,o,none⟩) 13 cp] W (fun e w' =>e= .returned (.tuple #[.agg #[.int .u8 67, .int .u32 5, .int .u64 0, .int .u32 0, .int .u32 0, .int .u32 0, .string ⟨#[]⟩, .int .u8 0, .slice none 0 0, .int .u8 0, .int .u32 0, .int .u32 0, .int .u8 0, .slice none 0 0, .slice none 0 0, .slice none 0 0, .int .u8 0], .int .i64 13, .int .i64 0])∧Ext W w') from parseC_any bb o cp M kg c ps W (hs.ext h) hcp (hk.ext h) (hc.ext h))
 have HCM:=Hm (fun W (h:Blk W rv #[.pointer (some ⟨kg,0,none⟩), .int .u32 0, .pointer (some ⟨tb,0,none⟩), .slice none 0 0] 168) (ht:Blk W tb #[.int .u32 5, .int .u64 0, .slice none 0 0] 84)=>commit_any rv kg tb W h ht)
 have HR:=Hm h
 have HT:=Hm ht
 have HT0:=Hm (Blk.new w #[.int .u32 0, .int .u64 0, .slice none 0 0] 84)
 have hrv:=h.lt
 have htb:=ht.lt
 have r0:=(h.alloc (.cells #[.int .u32 0, .int .u64 0, .slice none 0 0] 84)).cell
 have rz:=(h.alloc (.cells #[.int .u32 0, .int .u64 0, .slice none 0 0] 84)).lt
 have hmf:∀(fn:Fn) (first cap:Array Value) (w:World),(Instr.makeFunc fn first cap).run Tryz.prog w= .ok (.func fn first cap) w:=fun _ _ _ _=>rfl
 have hrt:tb≠rv:=fun e=>by
  subst e
  unfold Blk at h ht
  rw [h] at ht
  simp at ht
 clear h hs hk hc ht
 go_enter Tryz.func46,Tryz.ntmps46
 go_upto_region 2 with (go_at_call 77;refine (HPA.out _ (by exact eX)).mono ?_;rintro e w1 ⟨rfl,hb1⟩;have HX1:=Hm (show Ext w w1 by exact eX);have HT1:=Hm (HT0.out.ext hb1);clear hb1)
 have HM2:=Hm (Blk.new w1 #[.int .u8 67, .int .u32 5, .int .u64 0, .int .u32 0, .int .u32 0, .int .u32 0, .string ⟨#[]⟩, .int .u8 0, .slice none 0 0, .int .u8 0, .int .u32 0, .int .u32 0, .int .u8 0, .slice none 0 0, .slice none 0 0, .slice none 0 0, .int .u8 0] 79)
 have HX2:=Hm (show Ext w (w1.alloc (.cells #[.int .u8 67, .int .u32 5, .int .u64 0, .int .u32 0, .int .u32 0, .int .u32 0, .string ⟨#[]⟩, .int .u8 0, .slice none 0 0, .int .u8 0, .int .u32 0, .int .u32 0, .int .u8 0, .slice none 0 0, .slice none 0 0, .slice none 0 0, .int .u8 0] 79)) from HX1.out.alloc _)
 have HR2:=Hm (HR.out.ext HX2.out)
 have HB2:=Hm (HT.out.ext HX2.out)
 have HT2:=Hm (HT1.out.alloc (.cells #[.int .u8 67, .int .u32 5, .int .u64 0, .int .u32 0, .int .u32 0, .int .u32 0, .string ⟨#[]⟩, .int .u8 0, .slice none 0 0, .int .u8 0, .int .u32 0, .int .u32 0, .int .u8 0, .slice none 0 0, .slice none 0 0, .slice none 0 0, .int .u8 0] 79))
 have hne:w.heap.size<w1.heap.size:=HT1.out.lt
 obtain ⟨X,hX⟩:∃X,X=w1.heap.size:=⟨_,rfl⟩
 obtain ⟨w2,hw2⟩:∃W,W=w1.alloc (.cells #[.int .u8 67, .int .u32 5, .int .u64 0, .int .u32 0, .int .u32 0, .int .u32 0, .string ⟨#[]⟩, .int .u8 0, .slice none 0 0, .int .u8 0, .int .u32 0, .int .u32 0, .int .u8 0, .slice none 0 0, .slice none 0 0, .slice none 0 0, .int .u8 0] 79):=⟨_,rfl⟩
 rw [←hX,←hw2] at HM2
 rw [←hw2] at HX2 HR2 HT2 HB2
 rw [←hX,←hw2]
 rw [←hX] at hne
 clear hX hw2 r0 rz HT0 HT1 HX1 HPA HR HT
 have m0:=HM2.out.cell
 have mz:=HM2.out.lt
 go_upto_region 17 with (first
  |(refine wpList_load_to rfl 79 (.tmp 8) rfl _ _ ?e1 (load17 HM2.out) ?_;(case e1=>go_simp))
  |(go_at_call 81;refine (HCM.out _ HR2.out HB2.out).mono ?_;rintro e w3 ⟨rfl,hk⟩;have HX3:=Hm (HX2.out.trans hk);have HR3:=Hm (HR2.out.ext hk);have HB3:=Hm (HB2.out.ext hk);have HM3:=Hm (HM2.out.ext hk);have HZ3:=Hm (HT2.out.ext hk);have m3:=HM3.out.cell;have mz3:=HM3.out.lt;clear hk m0 mz))
 clear m3 mz3 HM3 HM2 HX2 HR2 HB2 HT2
 have r3:=HR3.out.cell
 have r3f:=HR3.out.frozen
 have r3z:=HR3.out.lt
 have b3:=HB3.out.cell
 have b3z:=HB3.out.lt
 have z3:=HZ3.out.cell
 have z3f:=HZ3.out.frozen
 have z3z:=HZ3.out.lt
 go_wp2
 have hra:=HR3.out.set 1 (.int .u32 5)
 have hrb:=hra.set 2 (.pointer none)
 have hsa:Kp (fun k=>k=rv) w3 ((w3.setCell ⟨rv,1,none⟩ (.int .u32 5)).setCell ⟨rv,2,none⟩ (.pointer none)):=(Kp.set (S:=fun k=>k=rv) _ _ rfl).setS rfl _
 have hza:=HZ3.out.kp hsa (show ¬ w.heap.size=rv by omega)
 have hka:=(Kp.of_ext (S:=fun k=>k=rv) HX3.out).trans hsa (fun _ h _=>h)
 obtain ⟨w4,hw4⟩:∃W,W=(w3.setCell ⟨rv,1,none⟩ (.int .u32 5)).setCell ⟨rv,2,none⟩ (.pointer none):=⟨_,rfl⟩
 rw [←hw4] at hrb hza hka⊢
 clear hw4 hsa hra r3 r3f r3z b3 b3z z3 z3f z3z
 have hb5:Blk (((w4.setCell ⟨w.heap.size,0,none⟩ (.int .u32 5)).setCell ⟨w.heap.size,1,none⟩ (.int .u64 0)).setCell ⟨w.heap.size,2,none⟩ (.slice none 0 0)) w.heap.size #[.int .u32 5, .int .u64 0, .slice none 0 0] 84:=by
  simpa using ((hza.set 0 (.int .u32 5)).set 1 (.int .u64 0)).set 2 (.slice none 0 0)
 have hk5:Kp (fun k=>k=w.heap.size) w4 (((w4.setCell ⟨w.heap.size,0,none⟩ (.int .u32 5)).setCell ⟨w.heap.size,1,none⟩ (.int .u64 0)).setCell ⟨w.heap.size,2,none⟩ (.slice none 0 0)):=((Kp.set (S:=fun k=>k=w.heap.size) _ _ rfl).setS rfl _).setS rfl _
 have hr5:=hrb.kp hk5 (show ¬ rv=w.heap.size by omega)
 have hk6:=((hka.setNew (p:=⟨w.heap.size,0,none⟩) (Nat.le_refl _) (.int .u32 5)).setNew (p:=⟨w.heap.size,1,none⟩) (Nat.le_refl _) (.int .u64 0)).setNew (p:=⟨w.heap.size,2,none⟩) (Nat.le_refl _) (.slice none 0 0)
 obtain ⟨w5,hw5⟩:∃W,W=((w4.setCell ⟨w.heap.size,0,none⟩ (.int .u32 5)).setCell ⟨w.heap.size,1,none⟩ (.int .u64 0)).setCell ⟨w.heap.size,2,none⟩ (.slice none 0 0):=⟨_,rfl⟩
 rw [←hw5] at hb5 hr5 hk6⊢
 clear hw5 hk5
 have HF:=Hm (show Blk (w5.alloc (.cells #[.int .u32 5, .int .u64 0, .slice none 0 0] 84)) rv #[.pointer (some ⟨kg,0,none⟩), .int .u32 5, .pointer none, .slice none 0 0] 168∧Kp (fun k=>k=rv) w (w5.alloc (.cells #[.int .u32 5, .int .u64 0, .slice none 0 0] 84)) from ⟨by have h:=hr5.alloc (.cells #[.int .u32 5, .int .u64 0, .slice none 0 0] 84);simpa using h,hk6.trans (Kp.of_ext ((Ext.refl _).alloc _)) (fun _ h _=>h)⟩)
 have hb6:=hb5.alloc (.cells #[.int .u32 5, .int .u64 0, .slice none 0 0] 84)
 obtain ⟨w6,hw6⟩:∃W,W=w5.alloc (.cells #[.int .u32 5, .int .u64 0, .slice none 0 0] 84):=⟨_,rfl⟩
 rw [←hw6] at hb6 HF⊢
 clear hw6 hr5 hk6 hb5
 have c0:=hb6.cell 0
 have c1:=hb6.cell 1
 have c2:=hb6.cell 2
 simp at c0 c1 c2
 simp [bodyPost,results,Tryz.results46,go_sem,c0,c1,c2]
 exact HF.out
end Go.Proofs.YtgmphpccpfaapaaGreatDoor
