/-
The messages of updates and deletes with what was there: the reference's reader.
-/
import Derived.Test.YtgmphpccpfaapaaGreatDoorP42
set_option maxRecDepth 100000
set_option maxHeartbeats 16000000
namespace Go.Proofs.YtgmphpccpfaapaaGreatDoor
open Go.RowKit
theorem pbodyU1_any (kd ao av:Int) (b a:List K) (q:RR) (g:Nat) (cv:Value) (w:World) (hkd:wkind 85=kd) (h:Rd w g (strOfNums (refW ao av++([75]++(octs b.length 1++(cellsW b++([78]++(octs a.length 1++(cellsW a++ []))))))))) (ho:B32 ao) (hv:B32 av) (hib:ImOk q b) (hia:ImOk q a)
 (hget:∀W,Kp (fun k=>k=g) w W→Calls Tryz.prog 55 #[cv, .agg #[.int .u32 ao, .int .u32 av]] W fun e w' =>e= .returned (.tuple #[q.agg, .bool true])∧Ext W w') (hqin:∀W,Kp (fun k=>k=g) w W→q.in W):
 Calls Tryz.prog 25 #[.pointer (some ⟨g,0,none⟩),cv, .int .u8 85] w (BodyPost ⟨85,0,0,0,Rl0,⟨kd,ao,av,1,b,a, [],0⟩⟩ g w):=by
 have hg:=h.lt
 have HP1:=Hm (PS.startA h #[.int .u8 85, .int .u32 0, .int .u64 0, .int .u32 0, .int .u32 0, .int .u32 0, .string ⟨#[]⟩, .int .u8 0, .slice none 0 0, .int .u8 kd, .int .u32 0, .int .u32 0, .int .u8 0, .slice none 0 0, .slice none 0 0, .slice none 0 0, .int .u8 0])
 have HKI:=Hm (fun W=>show Calls Tryz.prog 54 #[.int .u8 85] W (fun e w' =>e= .returned (.int .u8 kd)∧W=w') from by have h:=rkind_any 85 W;rw [hkd] at h;exact h)
 have lb:=hib.le
 have nb:=hib.n
 have la:=hia.le
 have na:=hia.n
 have HRF:=Hm (fun W (h:Rd W g (strOfNums (refW ao av++([75]++(octs b.length 1++(cellsW b++([78]++(octs a.length 1++(cellsW a++ [])))))))))=>pref_any g ao av _ W h ho hv (by simp only [List.length_append,List.length_singleton,List.length_nil,octs_len];omega))
 have HT1:=Hm (fun W (h:Rd W g (strOfNums ([75]++(octs b.length 1++(cellsW b++([78]++(octs a.length 1++(cellsW a++ []))))))))=>show Calls Tryz.prog 56 #[.pointer (some ⟨g,0,none⟩), .int .u64 1] W (fun e w' =>e= .returned (.string ⟨#[75]⟩)∧Rd w' g (strOfNums (octs b.length 1++(cellsW b++([78]++(octs a.length 1++(cellsW a++ []))))))∧Kp (fun k=>k=g) W w') from ptake_any g [75] _ W h (by simp only [List.length_append,List.length_singleton,List.length_nil,octs_len];omega))
 have HT2:=Hm (fun W (h:Rd W g (strOfNums ([78]++(octs a.length 1++(cellsW a++ [])))))=>show Calls Tryz.prog 56 #[.pointer (some ⟨g,0,none⟩), .int .u64 1] W (fun e w' =>e= .returned (.string ⟨#[78]⟩)∧Rd w' g (strOfNums (octs a.length 1++(cellsW a++ [])))∧Kp (fun k=>k=g) W w') from ptake_any g [78] _ W h (by simp only [List.length_append,List.length_singleton,List.length_nil,octs_len];omega))
 have HI1:=Hm (fun W (h:Rd W g (strOfNums (octs b.length 1++(cellsW b++([78]++(octs a.length 1++(cellsW a++ []))))))) (hi:q.in W)=>show Calls Tryz.prog 57 #[.pointer (some ⟨g,0,none⟩),q.agg] W _ from pimage_any g q b (([78]++(octs a.length 1++(cellsW a++ [])))) W h hi hib.len hib.n hib.r hib.tw (by simp only [List.length_append,List.length_singleton,List.length_nil,octs_len];omega))
 have HI2:=Hm (fun W (h:Rd W g (strOfNums (octs a.length 1++(cellsW a++ [])))) (hi:q.in W)=>show Calls Tryz.prog 57 #[.pointer (some ⟨g,0,none⟩),q.agg] W _ from pimage_any g q a ([]) W h hi hia.len hia.n hia.r hia.tw (by simp only [List.length_nil];omega))
 have HGT:=Hm hget
 have HQI:=Hm hqin
 clear h hget hqin ho hv hkd hib hia lb nb la na
 obtain ⟨⟨qo,qv,qn,qi,qc⟩,qa,qcap⟩:=q
 unfold RR.agg at HGT HI1 HI2
 simp only at HGT HI1 HI2
 go_enter Tryz.func25,Tryz.ntmps25
 go_upto_region 35 with (go_at_call 54;refine (HKI.out _).mono ?_;rintro e w1 ⟨rfl,rfl⟩)
 obtain ⟨w1,hw1⟩:∃W,W=(w.alloc (.cells #[.int .u8 0, .int .u32 0, .int .u64 0, .int .u32 0, .int .u32 0, .int .u32 0, .string ⟨#[]⟩, .int .u8 0, .slice none 0 0, .int .u8 0, .int .u32 0, .int .u32 0, .int .u8 0, .slice none 0 0, .slice none 0 0, .slice none 0 0, .int .u8 0] 49)).alloc (.cells #[.int .u8 85, .int .u32 0, .int .u64 0, .int .u32 0, .int .u32 0, .int .u32 0, .string ⟨#[]⟩, .int .u8 0, .slice none 0 0, .int .u8 kd, .int .u32 0, .int .u32 0, .int .u8 0, .slice none 0 0, .slice none 0 0, .slice none 0 0, .int .u8 0] 49):=⟨_,rfl⟩
 rw [←hw1] at HP1⊢
 clear hw1 HKI
 go_upto_region 36 with (go_at_call 52;refine (HRF.out _ HP1.out.r).mono ?_;rintro e w2 ⟨rfl,hr2,hk2⟩;have HP2:=Hm (HP1.out.call hr2 hk2);have c2:=HP2.out.x.cell;have c2f:=HP2.out.x.frozen;have c2z:=HP2.out.x.lt;clear hr2 hk2 HRF HP1)
 have HP3:=Hm ((HP2.out.set 10 (.int .u32 ao) rfl).set 11 (.int .u32 av) (A' := #[.int .u8 85, .int .u32 0, .int .u64 0, .int .u32 0, .int .u32 0, .int .u32 0, .string ⟨#[]⟩, .int .u8 0, .slice none 0 0, .int .u8 kd, .int .u32 ao, .int .u32 av, .int .u8 0, .slice none 0 0, .slice none 0 0, .slice none 0 0, .int .u8 0]) rfl)
 obtain ⟨w3,hw3⟩:∃W,W=(w2.setCell ⟨w.heap.size+1,10,none⟩ (.int .u32 ao)).setCell ⟨w.heap.size+1,11,none⟩ (.int .u32 av):=⟨_,rfl⟩
 rw [←hw3] at HP3⊢
 clear hw3 HP2 c2 c2f c2z
 have c3:=HP3.out.x.cell
 have c3z:=HP3.out.x.lt
 go_upto_region 37 with (go_at_call 55;refine (HGT.out _ HP3.out.k).mono ?_;rintro e w4 ⟨rfl,hb4⟩;have HP4:=Hm (HP3.out.ext hb4);clear hb4 c3 c3z HGT HP3)
 have HP5:=Hm (HP4.out.ext ((Ext.refl w4).alloc (.cells #[.int .u32 qo, .int .u32 qv, .string qn, .int .u8 qi, .slice qa qc.length qcap] 44)))
 have HX5:=Hm (Blk.new w4 #[.int .u32 qo, .int .u32 qv, .string qn, .int .u8 qi, .slice qa qc.length qcap] 44)
 have HX2:=Hm (show w.heap.size+1<w4.heap.size from HP4.out.x.lt)
 obtain ⟨X,hX⟩:∃X,X=w4.heap.size:=⟨_,rfl⟩
 obtain ⟨w5,hw5⟩:∃W,W=w4.alloc (.cells #[.int .u32 qo, .int .u32 qv, .string qn, .int .u8 qi, .slice qa qc.length qcap] 44):=⟨_,rfl⟩
 rw [←hX] at HX2⊢
 rw [←hw5] at HP5⊢
 rw [←hX,←hw5] at HX5
 clear hX hw5 HP4
 have hXg:X≠g:=by have:=HX2.out;omega
 go_upto_region 40 with (go_at_call 56;refine (HT1.out _ HP5.out.r).mono ?_;rintro e w6 ⟨rfl,hr6,hk6⟩;have HP6:=Hm (HP5.out.call hr6 hk6);have HX6:=Hm (HX5.out.kp hk6 hXg);clear hr6 hk6 HT1 HP5 HX5)
 have c6:=HP6.out.x.cell
 have c6f:=HP6.out.x.frozen
 have c6z:=HP6.out.x.lt
 go_upto_region 46 with (fail)
 have HP7:=Hm (HP6.out.set 12 (.int .u8 1) (A' := #[.int .u8 85, .int .u32 0, .int .u64 0, .int .u32 0, .int .u32 0, .int .u32 0, .string ⟨#[]⟩, .int .u8 0, .slice none 0 0, .int .u8 kd, .int .u32 ao, .int .u32 av, .int .u8 1, .slice none 0 0, .slice none 0 0, .slice none 0 0, .int .u8 0]) rfl)
 have HX7:=Hm (HX6.out.other ⟨w.heap.size+1,12,none⟩ (.int .u8 1) (by have:=HX2.out;show X≠w.heap.size+1;omega))
 obtain ⟨w7,hw7⟩:∃W,W=w6.setCell ⟨w.heap.size+1,12,none⟩ (.int .u8 1):=⟨_,rfl⟩
 rw [←hw7] at HP7 HX7⊢
 clear hw7 HP6 HX6 c6 c6f c6z
 have x7:=HX7.out.cell
 have x7z:=HX7.out.lt
 go_upto_region 47 with (go_at_call 57;refine (HI1.out _ HP7.out.r (HQI.out _ HP7.out.k)).mono ?_;rintro e w8 ⟨ab,cb,rfl,hs8,hn8,hr8,hk8⟩;have HP8:=Hm (HP7.out.call hr8 hk8);have HX8:=Hm (HX7.out.kp hk8 hXg);have HS8:=Hm hs8;have HN8:Hid (∀b o,ab=some ⟨b,o,none⟩→w.heap.size+2≤b):=Hm (fun b o e=>by have:=hn8 b o e;have:=HP7.out.x.lt;omega);have c8:=HP8.out.x.cell;have c8f:=HP8.out.x.frozen;have c8z:=HP8.out.x.lt;clear hs8 hn8 hr8 hk8 HI1 HP7 HX7 x7 x7z)
 have HP9:=Hm (HP8.out.set 13 (.slice ab b.length cb) (A' := #[.int .u8 85, .int .u32 0, .int .u64 0, .int .u32 0, .int .u32 0, .int .u32 0, .string ⟨#[]⟩, .int .u8 0, .slice none 0 0, .int .u8 kd, .int .u32 ao, .int .u32 av, .int .u8 1, .slice ab b.length cb, .slice none 0 0, .slice none 0 0, .int .u8 0]) rfl)
 have HX9:=Hm (HX8.out.other ⟨w.heap.size+1,13,none⟩ (.slice ab b.length cb) (by have:=HX2.out;show X≠w.heap.size+1;omega))
 have HS9:=Hm (PS.slk (w:=w) HS8.out HN8.out 13 (.slice ab b.length cb))
 obtain ⟨w9,hw9⟩:∃W,W=w8.setCell ⟨w.heap.size+1,13,none⟩ (.slice ab b.length cb):=⟨_,rfl⟩
 rw [←hw9] at HP9 HX9 HS9⊢
 clear hw9 HP8 HX8 HS8 c8 c8f c8z
 go_upto_region 50 with (go_at_call 56;refine (HT2.out _ HP9.out.r).mono ?_;rintro e w10 ⟨rfl,hr10,hk10⟩;have HP10:=Hm (HP9.out.call hr10 hk10);have HX10:=Hm (HX9.out.kp hk10 hXg);have HS10:=Hm (kp_slk (w:=w) hk10 hg HS9.out HN8.out);clear hr10 hk10 HT2 HP9 HX9 HS9)
 go_upto_region 52 with (fail)
 have x11:=HX10.out.cell
 have x11z:=HX10.out.lt
 go_upto_region 53 with (go_at_call 57;refine (HI2.out _ HP10.out.r (HQI.out _ HP10.out.k)).mono ?_;rintro e w12 ⟨aa,ca,rfl,hs12,hn12,hr12,hk12⟩;have HP12:=Hm (HP10.out.call hr12 hk12);have HA12:=Hm hs12;have HN12:Hid (∀b o,aa=some ⟨b,o,none⟩→w.heap.size+2≤b):=Hm (fun b o e=>by have:=hn12 b o e;have:=HP10.out.x.lt;omega);have HS12:=Hm (kp_slk (w:=w) hk12 hg HS10.out HN8.out);have c12:=HP12.out.x.cell;have c12f:=HP12.out.x.frozen;have c12z:=HP12.out.x.lt;clear hs12 hn12 hr12 hk12 HI2 HP10 HX10 x11 x11z)
 have HP13:=Hm (HP12.out.set 14 (.slice aa a.length ca) (A' := #[.int .u8 85, .int .u32 0, .int .u64 0, .int .u32 0, .int .u32 0, .int .u32 0, .string ⟨#[]⟩, .int .u8 0, .slice none 0 0, .int .u8 kd, .int .u32 ao, .int .u32 av, .int .u8 1, .slice ab b.length cb, .slice aa a.length ca, .slice none 0 0, .int .u8 0]) rfl)
 have HA13:=Hm (PS.slk (w:=w) HA12.out HN12.out 14 (.slice aa a.length ca))
 have HS13:=Hm (PS.slk (w:=w) HS12.out HN8.out 14 (.slice aa a.length ca))
 obtain ⟨w13,hw13⟩:∃W,W=w12.setCell ⟨w.heap.size+1,14,none⟩ (.slice aa a.length ca):=⟨_,rfl⟩
 rw [←hw13] at HP13 HA13 HS13⊢
 clear hw13 HP12 HA12 c12 c12f c12z HS12
 as_aux_lemma=>
  go_wp2_with (first
   |(refine wpList_load_to rfl 49 (.tmp 7) rfl _ _ ?e1 (PS.load HP13.out) ?_;(case e1=>go_simp))
   |(refine wpList_store_to rfl 49 (.tmp 6) (.tmp 193) rfl _ _ ?e1 ?e2 (PS.store HP13.out) ?_;(case e1=>go_simp);(case e2=>go_simp)))
  as_aux_lemma=>
   refine bodyPost_ret (res_pbody (Blk.c17 HP13.out.z) rfl) rfl ?_
   exact PS.done rfl HP13.out (p:=⟨85,0,0,0,R0,⟨⟨kd,ao,av,1,b,a, [],0⟩,ab,cb,aa,ca,none,0⟩⟩) rfl rfl ⟨RR.in_zero _,⟨HS13.out,HA13.out,⟨none,0,rfl, .inl rfl⟩⟩⟩ ⟨fun h0=>absurd rfl h0,fun _ b o e=>HN8.out b o e,fun _ b o e=>HN12.out b o e,fun h0=>absurd rfl h0⟩
theorem pbodyU2_any (kd ao av:Int) (b a:List K) (q:RR) (g:Nat) (cv:Value) (w:World) (hkd:wkind 85=kd) (h:Rd w g (strOfNums (refW ao av++([79]++(octs b.length 1++(cellsW b++([78]++(octs a.length 1++(cellsW a++ []))))))))) (ho:B32 ao) (hv:B32 av) (hib:ImOk q b) (hia:ImOk q a)
 (hget:∀W,Kp (fun k=>k=g) w W→Calls Tryz.prog 55 #[cv, .agg #[.int .u32 ao, .int .u32 av]] W fun e w' =>e= .returned (.tuple #[q.agg, .bool true])∧Ext W w') (hqin:∀W,Kp (fun k=>k=g) w W→q.in W):
 Calls Tryz.prog 25 #[.pointer (some ⟨g,0,none⟩),cv, .int .u8 85] w (BodyPost ⟨85,0,0,0,Rl0,⟨kd,ao,av,2,b,a, [],0⟩⟩ g w):=by
 have hg:=h.lt
 have HP1:=Hm (PS.startA h #[.int .u8 85, .int .u32 0, .int .u64 0, .int .u32 0, .int .u32 0, .int .u32 0, .string ⟨#[]⟩, .int .u8 0, .slice none 0 0, .int .u8 kd, .int .u32 0, .int .u32 0, .int .u8 0, .slice none 0 0, .slice none 0 0, .slice none 0 0, .int .u8 0])
 have HKI:=Hm (fun W=>show Calls Tryz.prog 54 #[.int .u8 85] W (fun e w' =>e= .returned (.int .u8 kd)∧W=w') from by have h:=rkind_any 85 W;rw [hkd] at h;exact h)
 have lb:=hib.le
 have nb:=hib.n
 have la:=hia.le
 have na:=hia.n
 have HRF:=Hm (fun W (h:Rd W g (strOfNums (refW ao av++([79]++(octs b.length 1++(cellsW b++([78]++(octs a.length 1++(cellsW a++ [])))))))))=>pref_any g ao av _ W h ho hv (by simp only [List.length_append,List.length_singleton,List.length_nil,octs_len];omega))
 have HT1:=Hm (fun W (h:Rd W g (strOfNums ([79]++(octs b.length 1++(cellsW b++([78]++(octs a.length 1++(cellsW a++ []))))))))=>show Calls Tryz.prog 56 #[.pointer (some ⟨g,0,none⟩), .int .u64 1] W (fun e w' =>e= .returned (.string ⟨#[79]⟩)∧Rd w' g (strOfNums (octs b.length 1++(cellsW b++([78]++(octs a.length 1++(cellsW a++ []))))))∧Kp (fun k=>k=g) W w') from ptake_any g [79] _ W h (by simp only [List.length_append,List.length_singleton,List.length_nil,octs_len];omega))
 have HT2:=Hm (fun W (h:Rd W g (strOfNums ([78]++(octs a.length 1++(cellsW a++ [])))))=>show Calls Tryz.prog 56 #[.pointer (some ⟨g,0,none⟩), .int .u64 1] W (fun e w' =>e= .returned (.string ⟨#[78]⟩)∧Rd w' g (strOfNums (octs a.length 1++(cellsW a++ [])))∧Kp (fun k=>k=g) W w') from ptake_any g [78] _ W h (by simp only [List.length_append,List.length_singleton,List.length_nil,octs_len];omega))
 have HI1:=Hm (fun W (h:Rd W g (strOfNums (octs b.length 1++(cellsW b++([78]++(octs a.length 1++(cellsW a++ []))))))) (hi:q.in W)=>show Calls Tryz.prog 57 #[.pointer (some ⟨g,0,none⟩),q.agg] W _ from pimage_any g q b (([78]++(octs a.length 1++(cellsW a++ [])))) W h hi hib.len hib.n hib.r hib.tw (by simp only [List.length_append,List.length_singleton,List.length_nil,octs_len];omega))
 have HI2:=Hm (fun W (h:Rd W g (strOfNums (octs a.length 1++(cellsW a++ [])))) (hi:q.in W)=>show Calls Tryz.prog 57 #[.pointer (some ⟨g,0,none⟩),q.agg] W _ from pimage_any g q a ([]) W h hi hia.len hia.n hia.r hia.tw (by simp only [List.length_nil];omega))
 have HGT:=Hm hget
 have HQI:=Hm hqin
 clear h hget hqin ho hv hkd hib hia lb nb la na
 obtain ⟨⟨qo,qv,qn,qi,qc⟩,qa,qcap⟩:=q
 unfold RR.agg at HGT HI1 HI2
 simp only at HGT HI1 HI2
 go_enter Tryz.func25,Tryz.ntmps25
 go_upto_region 35 with (go_at_call 54;refine (HKI.out _).mono ?_;rintro e w1 ⟨rfl,rfl⟩)
 obtain ⟨w1,hw1⟩:∃W,W=(w.alloc (.cells #[.int .u8 0, .int .u32 0, .int .u64 0, .int .u32 0, .int .u32 0, .int .u32 0, .string ⟨#[]⟩, .int .u8 0, .slice none 0 0, .int .u8 0, .int .u32 0, .int .u32 0, .int .u8 0, .slice none 0 0, .slice none 0 0, .slice none 0 0, .int .u8 0] 49)).alloc (.cells #[.int .u8 85, .int .u32 0, .int .u64 0, .int .u32 0, .int .u32 0, .int .u32 0, .string ⟨#[]⟩, .int .u8 0, .slice none 0 0, .int .u8 kd, .int .u32 0, .int .u32 0, .int .u8 0, .slice none 0 0, .slice none 0 0, .slice none 0 0, .int .u8 0] 49):=⟨_,rfl⟩
 rw [←hw1] at HP1⊢
 clear hw1 HKI
 go_upto_region 36 with (go_at_call 52;refine (HRF.out _ HP1.out.r).mono ?_;rintro e w2 ⟨rfl,hr2,hk2⟩;have HP2:=Hm (HP1.out.call hr2 hk2);have c2:=HP2.out.x.cell;have c2f:=HP2.out.x.frozen;have c2z:=HP2.out.x.lt;clear hr2 hk2 HRF HP1)
 have HP3:=Hm ((HP2.out.set 10 (.int .u32 ao) rfl).set 11 (.int .u32 av) (A' := #[.int .u8 85, .int .u32 0, .int .u64 0, .int .u32 0, .int .u32 0, .int .u32 0, .string ⟨#[]⟩, .int .u8 0, .slice none 0 0, .int .u8 kd, .int .u32 ao, .int .u32 av, .int .u8 0, .slice none 0 0, .slice none 0 0, .slice none 0 0, .int .u8 0]) rfl)
 obtain ⟨w3,hw3⟩:∃W,W=(w2.setCell ⟨w.heap.size+1,10,none⟩ (.int .u32 ao)).setCell ⟨w.heap.size+1,11,none⟩ (.int .u32 av):=⟨_,rfl⟩
 rw [←hw3] at HP3⊢
 clear hw3 HP2 c2 c2f c2z
 have c3:=HP3.out.x.cell
 have c3z:=HP3.out.x.lt
 go_upto_region 37 with (go_at_call 55;refine (HGT.out _ HP3.out.k).mono ?_;rintro e w4 ⟨rfl,hb4⟩;have HP4:=Hm (HP3.out.ext hb4);clear hb4 c3 c3z HGT HP3)
 have HP5:=Hm (HP4.out.ext ((Ext.refl w4).alloc (.cells #[.int .u32 qo, .int .u32 qv, .string qn, .int .u8 qi, .slice qa qc.length qcap] 44)))
 have HX5:=Hm (Blk.new w4 #[.int .u32 qo, .int .u32 qv, .string qn, .int .u8 qi, .slice qa qc.length qcap] 44)
 have HX2:=Hm (show w.heap.size+1<w4.heap.size from HP4.out.x.lt)
 obtain ⟨X,hX⟩:∃X,X=w4.heap.size:=⟨_,rfl⟩
 obtain ⟨w5,hw5⟩:∃W,W=w4.alloc (.cells #[.int .u32 qo, .int .u32 qv, .string qn, .int .u8 qi, .slice qa qc.length qcap] 44):=⟨_,rfl⟩
 rw [←hX] at HX2⊢
 rw [←hw5] at HP5⊢
 rw [←hX,←hw5] at HX5
 clear hX hw5 HP4
 have hXg:X≠g:=by have:=HX2.out;omega
 go_upto_region 40 with (go_at_call 56;refine (HT1.out _ HP5.out.r).mono ?_;rintro e w6 ⟨rfl,hr6,hk6⟩;have HP6:=Hm (HP5.out.call hr6 hk6);have HX6:=Hm (HX5.out.kp hk6 hXg);clear hr6 hk6 HT1 HP5 HX5)
 have c6:=HP6.out.x.cell
 have c6f:=HP6.out.x.frozen
 have c6z:=HP6.out.x.lt
 go_upto_region 46 with (fail)
 have HP7:=Hm ((HP6.out.set 12 (.int .u8 1) rfl).set 12 (.int .u8 2) (A' := #[.int .u8 85, .int .u32 0, .int .u64 0, .int .u32 0, .int .u32 0, .int .u32 0, .string ⟨#[]⟩, .int .u8 0, .slice none 0 0, .int .u8 kd, .int .u32 ao, .int .u32 av, .int .u8 2, .slice none 0 0, .slice none 0 0, .slice none 0 0, .int .u8 0]) rfl)
 have HX7:=Hm ((HX6.out.other ⟨w.heap.size+1,12,none⟩ (.int .u8 1) (by have:=HX2.out;show X≠w.heap.size+1;omega)).other ⟨w.heap.size+1,12,none⟩ (.int .u8 2) (by have:=HX2.out;show X≠w.heap.size+1;omega))
 obtain ⟨w7,hw7⟩:∃W,W=(w6.setCell ⟨w.heap.size+1,12,none⟩ (.int .u8 1)).setCell ⟨w.heap.size+1,12,none⟩ (.int .u8 2):=⟨_,rfl⟩
 rw [←hw7] at HP7 HX7⊢
 clear hw7 HP6 HX6 c6 c6f c6z
 have x7:=HX7.out.cell
 have x7z:=HX7.out.lt
 go_upto_region 47 with (go_at_call 57;refine (HI1.out _ HP7.out.r (HQI.out _ HP7.out.k)).mono ?_;rintro e w8 ⟨ab,cb,rfl,hs8,hn8,hr8,hk8⟩;have HP8:=Hm (HP7.out.call hr8 hk8);have HX8:=Hm (HX7.out.kp hk8 hXg);have HS8:=Hm hs8;have HN8:Hid (∀b o,ab=some ⟨b,o,none⟩→w.heap.size+2≤b):=Hm (fun b o e=>by have:=hn8 b o e;have:=HP7.out.x.lt;omega);have c8:=HP8.out.x.cell;have c8f:=HP8.out.x.frozen;have c8z:=HP8.out.x.lt;clear hs8 hn8 hr8 hk8 HI1 HP7 HX7 x7 x7z)
 have HP9:=Hm (HP8.out.set 13 (.slice ab b.length cb) (A' := #[.int .u8 85, .int .u32 0, .int .u64 0, .int .u32 0, .int .u32 0, .int .u32 0, .string ⟨#[]⟩, .int .u8 0, .slice none 0 0, .int .u8 kd, .int .u32 ao, .int .u32 av, .int .u8 2, .slice ab b.length cb, .slice none 0 0, .slice none 0 0, .int .u8 0]) rfl)
 have HX9:=Hm (HX8.out.other ⟨w.heap.size+1,13,none⟩ (.slice ab b.length cb) (by have:=HX2.out;show X≠w.heap.size+1;omega))
 have HS9:=Hm (PS.slk (w:=w) HS8.out HN8.out 13 (.slice ab b.length cb))
 obtain ⟨w9,hw9⟩:∃W,W=w8.setCell ⟨w.heap.size+1,13,none⟩ (.slice ab b.length cb):=⟨_,rfl⟩
 rw [←hw9] at HP9 HX9 HS9⊢
 clear hw9 HP8 HX8 HS8 c8 c8f c8z
 go_upto_region 50 with (go_at_call 56;refine (HT2.out _ HP9.out.r).mono ?_;rintro e w10 ⟨rfl,hr10,hk10⟩;have HP10:=Hm (HP9.out.call hr10 hk10);have HX10:=Hm (HX9.out.kp hk10 hXg);have HS10:=Hm (kp_slk (w:=w) hk10 hg HS9.out HN8.out);clear hr10 hk10 HT2 HP9 HX9 HS9)
 go_upto_region 52 with (fail)
 have x11:=HX10.out.cell
 have x11z:=HX10.out.lt
 go_upto_region 53 with (go_at_call 57;refine (HI2.out _ HP10.out.r (HQI.out _ HP10.out.k)).mono ?_;rintro e w12 ⟨aa,ca,rfl,hs12,hn12,hr12,hk12⟩;have HP12:=Hm (HP10.out.call hr12 hk12);have HA12:=Hm hs12;have HN12:Hid (∀b o,aa=some ⟨b,o,none⟩→w.heap.size+2≤b):=Hm (fun b o e=>by have:=hn12 b o e;have:=HP10.out.x.lt;omega);have HS12:=Hm (kp_slk (w:=w) hk12 hg HS10.out HN8.out);have c12:=HP12.out.x.cell;have c12f:=HP12.out.x.frozen;have c12z:=HP12.out.x.lt;clear hs12 hn12 hr12 hk12 HI2 HP10 HX10 x11 x11z)
 have HP13:=Hm (HP12.out.set 14 (.slice aa a.length ca) (A' := #[.int .u8 85, .int .u32 0, .int .u64 0, .int .u32 0, .int .u32 0, .int .u32 0, .string ⟨#[]⟩, .int .u8 0, .slice none 0 0, .int .u8 kd, .int .u32 ao, .int .u32 av, .int .u8 2, .slice ab b.length cb, .slice aa a.length ca, .slice none 0 0, .int .u8 0]) rfl)
 have HA13:=Hm (PS.slk (w:=w) HA12.out HN12.out 14 (.slice aa a.length ca))
 have HS13:=Hm (PS.slk (w:=w) HS12.out HN8.out 14 (.slice aa a.length ca))
 obtain ⟨w13,hw13⟩:∃W,W=w12.setCell ⟨w.heap.size+1,14,none⟩ (.slice aa a.length ca):=⟨_,rfl⟩
 rw [←hw13] at HP13 HA13 HS13⊢
 clear hw13 HP12 HA12 c12 c12f c12z HS12
 as_aux_lemma=>
  go_wp2_with (first
   |(refine wpList_load_to rfl 49 (.tmp 7) rfl _ _ ?e1 (PS.load HP13.out) ?_;(case e1=>go_simp))
   |(refine wpList_store_to rfl 49 (.tmp 6) (.tmp 193) rfl _ _ ?e1 ?e2 (PS.store HP13.out) ?_;(case e1=>go_simp);(case e2=>go_simp)))
  as_aux_lemma=>
   refine bodyPost_ret (res_pbody (Blk.c17 HP13.out.z) rfl) rfl ?_
   exact PS.done rfl HP13.out (p:=⟨85,0,0,0,R0,⟨⟨kd,ao,av,2,b,a, [],0⟩,ab,cb,aa,ca,none,0⟩⟩) rfl rfl ⟨RR.in_zero _,⟨HS13.out,HA13.out,⟨none,0,rfl, .inl rfl⟩⟩⟩ ⟨fun h0=>absurd rfl h0,fun _ b o e=>HN8.out b o e,fun _ b o e=>HN12.out b o e,fun h0=>absurd rfl h0⟩
theorem pbodyD1_any (kd ao av:Int) (b:List K) (q:RR) (g:Nat) (cv:Value) (w:World) (hkd:wkind 68=kd) (h:Rd w g (strOfNums (refW ao av++([75]++(octs b.length 1++(cellsW b++ [])))))) (ho:B32 ao) (hv:B32 av) (hib:ImOk q b)
 (hget:∀W,Kp (fun k=>k=g) w W→Calls Tryz.prog 55 #[cv, .agg #[.int .u32 ao, .int .u32 av]] W fun e w' =>e= .returned (.tuple #[q.agg, .bool true])∧Ext W w') (hqin:∀W,Kp (fun k=>k=g) w W→q.in W):
 Calls Tryz.prog 25 #[.pointer (some ⟨g,0,none⟩),cv, .int .u8 68] w (BodyPost ⟨68,0,0,0,Rl0,⟨kd,ao,av,1,b, [], [],0⟩⟩ g w):=by
 have hg:=h.lt
 have HP1:=Hm (PS.startA h #[.int .u8 68, .int .u32 0, .int .u64 0, .int .u32 0, .int .u32 0, .int .u32 0, .string ⟨#[]⟩, .int .u8 0, .slice none 0 0, .int .u8 kd, .int .u32 0, .int .u32 0, .int .u8 0, .slice none 0 0, .slice none 0 0, .slice none 0 0, .int .u8 0])
 have HKI:=Hm (fun W=>show Calls Tryz.prog 54 #[.int .u8 68] W (fun e w' =>e= .returned (.int .u8 kd)∧W=w') from by have h:=rkind_any 68 W;rw [hkd] at h;exact h)
 have lb:=hib.le
 have nb:=hib.n
 have HRF:=Hm (fun W (h:Rd W g (strOfNums (refW ao av++([75]++(octs b.length 1++(cellsW b++ []))))))=>pref_any g ao av _ W h ho hv (by simp only [List.length_append,List.length_singleton,List.length_nil,octs_len];omega))
 have HT1:=Hm (fun W (h:Rd W g (strOfNums ([75]++(octs b.length 1++(cellsW b++ [])))))=>show Calls Tryz.prog 56 #[.pointer (some ⟨g,0,none⟩), .int .u64 1] W (fun e w' =>e= .returned (.string ⟨#[75]⟩)∧Rd w' g (strOfNums (octs b.length 1++(cellsW b++ [])))∧Kp (fun k=>k=g) W w') from ptake_any g [75] _ W h (by simp only [List.length_append,List.length_singleton,List.length_nil,octs_len];omega))
 have HI1:=Hm (fun W (h:Rd W g (strOfNums (octs b.length 1++(cellsW b++ [])))) (hi:q.in W)=>show Calls Tryz.prog 57 #[.pointer (some ⟨g,0,none⟩),q.agg] W _ from pimage_any g q b ([]) W h hi hib.len hib.n hib.r hib.tw (by simp only [List.length_nil];omega))
 have HGT:=Hm hget
 have HQI:=Hm hqin
 clear h hget hqin ho hv hkd hib lb nb
 obtain ⟨⟨qo,qv,qn,qi,qc⟩,qa,qcap⟩:=q
 unfold RR.agg at HGT HI1
 simp only at HGT HI1
 go_enter Tryz.func25,Tryz.ntmps25
 go_upto_region 35 with (go_at_call 54;refine (HKI.out _).mono ?_;rintro e w1 ⟨rfl,rfl⟩)
 obtain ⟨w1,hw1⟩:∃W,W=(w.alloc (.cells #[.int .u8 0, .int .u32 0, .int .u64 0, .int .u32 0, .int .u32 0, .int .u32 0, .string ⟨#[]⟩, .int .u8 0, .slice none 0 0, .int .u8 0, .int .u32 0, .int .u32 0, .int .u8 0, .slice none 0 0, .slice none 0 0, .slice none 0 0, .int .u8 0] 49)).alloc (.cells #[.int .u8 68, .int .u32 0, .int .u64 0, .int .u32 0, .int .u32 0, .int .u32 0, .string ⟨#[]⟩, .int .u8 0, .slice none 0 0, .int .u8 kd, .int .u32 0, .int .u32 0, .int .u8 0, .slice none 0 0, .slice none 0 0, .slice none 0 0, .int .u8 0] 49):=⟨_,rfl⟩
 rw [←hw1] at HP1⊢
 clear hw1 HKI
 go_upto_region 36 with (go_at_call 52;refine (HRF.out _ HP1.out.r).mono ?_;rintro e w2 ⟨rfl,hr2,hk2⟩;have HP2:=Hm (HP1.out.call hr2 hk2);have c2:=HP2.out.x.cell;have c2f:=HP2.out.x.frozen;have c2z:=HP2.out.x.lt;clear hr2 hk2 HRF HP1)
 have HP3:=Hm ((HP2.out.set 10 (.int .u32 ao) rfl).set 11 (.int .u32 av) (A' := #[.int .u8 68, .int .u32 0, .int .u64 0, .int .u32 0, .int .u32 0, .int .u32 0, .string ⟨#[]⟩, .int .u8 0, .slice none 0 0, .int .u8 kd, .int .u32 ao, .int .u32 av, .int .u8 0, .slice none 0 0, .slice none 0 0, .slice none 0 0, .int .u8 0]) rfl)
 obtain ⟨w3,hw3⟩:∃W,W=(w2.setCell ⟨w.heap.size+1,10,none⟩ (.int .u32 ao)).setCell ⟨w.heap.size+1,11,none⟩ (.int .u32 av):=⟨_,rfl⟩
 rw [←hw3] at HP3⊢
 clear hw3 HP2 c2 c2f c2z
 have c3:=HP3.out.x.cell
 have c3z:=HP3.out.x.lt
 go_upto_region 37 with (go_at_call 55;refine (HGT.out _ HP3.out.k).mono ?_;rintro e w4 ⟨rfl,hb4⟩;have HP4:=Hm (HP3.out.ext hb4);clear hb4 c3 c3z HGT HP3)
 have HP5:=Hm (HP4.out.ext ((Ext.refl w4).alloc (.cells #[.int .u32 qo, .int .u32 qv, .string qn, .int .u8 qi, .slice qa qc.length qcap] 44)))
 have HX5:=Hm (Blk.new w4 #[.int .u32 qo, .int .u32 qv, .string qn, .int .u8 qi, .slice qa qc.length qcap] 44)
 have HX2:=Hm (show w.heap.size+1<w4.heap.size from HP4.out.x.lt)
 obtain ⟨X,hX⟩:∃X,X=w4.heap.size:=⟨_,rfl⟩
 obtain ⟨w5,hw5⟩:∃W,W=w4.alloc (.cells #[.int .u32 qo, .int .u32 qv, .string qn, .int .u8 qi, .slice qa qc.length qcap] 44):=⟨_,rfl⟩
 rw [←hX] at HX2⊢
 rw [←hw5] at HP5⊢
 rw [←hX,←hw5] at HX5
 clear hX hw5 HP4
 have hXg:X≠g:=by have:=HX2.out;omega
 go_upto_region 40 with (go_at_call 56;refine (HT1.out _ HP5.out.r).mono ?_;rintro e w6 ⟨rfl,hr6,hk6⟩;have HP6:=Hm (HP5.out.call hr6 hk6);have HX6:=Hm (HX5.out.kp hk6 hXg);clear hr6 hk6 HT1 HP5 HX5)
 have c6:=HP6.out.x.cell
 have c6f:=HP6.out.x.frozen
 have c6z:=HP6.out.x.lt
 go_upto_region 46 with (fail)
 have HP7:=Hm (HP6.out.set 12 (.int .u8 1) (A' := #[.int .u8 68, .int .u32 0, .int .u64 0, .int .u32 0, .int .u32 0, .int .u32 0, .string ⟨#[]⟩, .int .u8 0, .slice none 0 0, .int .u8 kd, .int .u32 ao, .int .u32 av, .int .u8 1, .slice none 0 0, .slice none 0 0, .slice none 0 0, .int .u8 0]) rfl)
 have HX7:=Hm (HX6.out.other ⟨w.heap.size+1,12,none⟩ (.int .u8 1) (by have:=HX2.out;show X≠w.heap.size+1;omega))
 obtain ⟨w7,hw7⟩:∃W,W=w6.setCell ⟨w.heap.size+1,12,none⟩ (.int .u8 1):=⟨_,rfl⟩
 rw [←hw7] at HP7 HX7⊢
 clear hw7 HP6 HX6 c6 c6f c6z
 have x7:=HX7.out.cell
 have x7z:=HX7.out.lt
 go_upto_region 47 with (go_at_call 57;refine (HI1.out _ HP7.out.r (HQI.out _ HP7.out.k)).mono ?_;rintro e w8 ⟨ab,cb,rfl,hs8,hn8,hr8,hk8⟩;have HP8:=Hm (HP7.out.call hr8 hk8);have HX8:=Hm (HX7.out.kp hk8 hXg);have HS8:=Hm hs8;have HN8:Hid (∀b o,ab=some ⟨b,o,none⟩→w.heap.size+2≤b):=Hm (fun b o e=>by have:=hn8 b o e;have:=HP7.out.x.lt;omega);have c8:=HP8.out.x.cell;have c8f:=HP8.out.x.frozen;have c8z:=HP8.out.x.lt;clear hs8 hn8 hr8 hk8 HI1 HP7 HX7 x7 x7z)
 have HP9:=Hm (HP8.out.set 13 (.slice ab b.length cb) (A' := #[.int .u8 68, .int .u32 0, .int .u64 0, .int .u32 0, .int .u32 0, .int .u32 0, .string ⟨#[]⟩, .int .u8 0, .slice none 0 0, .int .u8 kd, .int .u32 ao, .int .u32 av, .int .u8 1, .slice ab b.length cb, .slice none 0 0, .slice none 0 0, .int .u8 0]) rfl)
 have HX9:=Hm (HX8.out.other ⟨w.heap.size+1,13,none⟩ (.slice ab b.length cb) (by have:=HX2.out;show X≠w.heap.size+1;omega))
 have HS9:=Hm (PS.slk (w:=w) HS8.out HN8.out 13 (.slice ab b.length cb))
 obtain ⟨w9,hw9⟩:∃W,W=w8.setCell ⟨w.heap.size+1,13,none⟩ (.slice ab b.length cb):=⟨_,rfl⟩
 rw [←hw9] at HP9 HX9 HS9⊢
 clear hw9 HP8 HX8 HS8 c8 c8f c8z
 go_upto_region 48 with (fail)
 as_aux_lemma=>
  go_wp2_with (first
   |(refine wpList_load_to rfl 49 (.tmp 7) rfl _ _ ?e1 (PS.load HP9.out) ?_;(case e1=>go_simp))
   |(refine wpList_store_to rfl 49 (.tmp 6) (.tmp 181) rfl _ _ ?e1 ?e2 (PS.store HP9.out) ?_;(case e1=>go_simp);(case e2=>go_simp)))
  as_aux_lemma=>
   refine bodyPost_ret (res_pbody (Blk.c17 HP9.out.z) rfl) rfl ?_
   exact PS.done rfl HP9.out (p:=⟨68,0,0,0,R0,⟨⟨kd,ao,av,1,b, [], [],0⟩,ab,cb,none,0,none,0⟩⟩) rfl rfl ⟨RR.in_zero _,⟨HS9.out,⟨none,0,rfl, .inl rfl⟩,⟨none,0,rfl, .inl rfl⟩⟩⟩ ⟨fun h0=>absurd rfl h0,fun _ b o e=>HN8.out b o e,fun h0=>absurd rfl h0,fun h0=>absurd rfl h0⟩
theorem pbodyD2_any (kd ao av:Int) (b:List K) (q:RR) (g:Nat) (cv:Value) (w:World) (hkd:wkind 68=kd) (h:Rd w g (strOfNums (refW ao av++([79]++(octs b.length 1++(cellsW b++ [])))))) (ho:B32 ao) (hv:B32 av) (hib:ImOk q b)
 (hget:∀W,Kp (fun k=>k=g) w W→Calls Tryz.prog 55 #[cv, .agg #[.int .u32 ao, .int .u32 av]] W fun e w' =>e= .returned (.tuple #[q.agg, .bool true])∧Ext W w') (hqin:∀W,Kp (fun k=>k=g) w W→q.in W):
 Calls Tryz.prog 25 #[.pointer (some ⟨g,0,none⟩),cv, .int .u8 68] w (BodyPost ⟨68,0,0,0,Rl0,⟨kd,ao,av,2,b, [], [],0⟩⟩ g w):=by
 have hg:=h.lt
 have HP1:=Hm (PS.startA h #[.int .u8 68, .int .u32 0, .int .u64 0, .int .u32 0, .int .u32 0, .int .u32 0, .string ⟨#[]⟩, .int .u8 0, .slice none 0 0, .int .u8 kd, .int .u32 0, .int .u32 0, .int .u8 0, .slice none 0 0, .slice none 0 0, .slice none 0 0, .int .u8 0])
 have HKI:=Hm (fun W=>show Calls Tryz.prog 54 #[.int .u8 68] W (fun e w' =>e= .returned (.int .u8 kd)∧W=w') from by have h:=rkind_any 68 W;rw [hkd] at h;exact h)
 have lb:=hib.le
 have nb:=hib.n
 have HRF:=Hm (fun W (h:Rd W g (strOfNums (refW ao av++([79]++(octs b.length 1++(cellsW b++ []))))))=>pref_any g ao av _ W h ho hv (by simp only [List.length_append,List.length_singleton,List.length_nil,octs_len];omega))
 have HT1:=Hm (fun W (h:Rd W g (strOfNums ([79]++(octs b.length 1++(cellsW b++ [])))))=>show Calls Tryz.prog 56 #[.pointer (some ⟨g,0,none⟩), .int .u64 1] W (fun e w' =>e= .returned (.string ⟨#[79]⟩)∧Rd w' g (strOfNums (octs b.length 1++(cellsW b++ [])))∧Kp (fun k=>k=g) W w') from ptake_any g [79] _ W h (by simp only [List.length_append,List.length_singleton,List.length_nil,octs_len];omega))
 have HI1:=Hm (fun W (h:Rd W g (strOfNums (octs b.length 1++(cellsW b++ [])))) (hi:q.in W)=>show Calls Tryz.prog 57 #[.pointer (some ⟨g,0,none⟩),q.agg] W _ from pimage_any g q b ([]) W h hi hib.len hib.n hib.r hib.tw (by simp only [List.length_nil];omega))
 have HGT:=Hm hget
 have HQI:=Hm hqin
 clear h hget hqin ho hv hkd hib lb nb
 obtain ⟨⟨qo,qv,qn,qi,qc⟩,qa,qcap⟩:=q
 unfold RR.agg at HGT HI1
 simp only at HGT HI1
 go_enter Tryz.func25,Tryz.ntmps25
 go_upto_region 35 with (go_at_call 54;refine (HKI.out _).mono ?_;rintro e w1 ⟨rfl,rfl⟩)
 obtain ⟨w1,hw1⟩:∃W,W=(w.alloc (.cells #[.int .u8 0, .int .u32 0, .int .u64 0, .int .u32 0, .int .u32 0, .int .u32 0, .string ⟨#[]⟩, .int .u8 0, .slice none 0 0, .int .u8 0, .int .u32 0, .int .u32 0, .int .u8 0, .slice none 0 0, .slice none 0 0, .slice none 0 0, .int .u8 0] 49)).alloc (.cells #[.int .u8 68, .int .u32 0, .int .u64 0, .int .u32 0, .int .u32 0, .int .u32 0, .string ⟨#[]⟩, .int .u8 0, .slice none 0 0, .int .u8 kd, .int .u32 0, .int .u32 0, .int .u8 0, .slice none 0 0, .slice none 0 0, .slice none 0 0, .int .u8 0] 49):=⟨_,rfl⟩
 rw [←hw1] at HP1⊢
 clear hw1 HKI
 go_upto_region 36 with (go_at_call 52;refine (HRF.out _ HP1.out.r).mono ?_;rintro e w2 ⟨rfl,hr2,hk2⟩;have HP2:=Hm (HP1.out.call hr2 hk2);have c2:=HP2.out.x.cell;have c2f:=HP2.out.x.frozen;have c2z:=HP2.out.x.lt;clear hr2 hk2 HRF HP1)
 have HP3:=Hm ((HP2.out.set 10 (.int .u32 ao) rfl).set 11 (.int .u32 av) (A' := #[.int .u8 68, .int .u32 0, .int .u64 0, .int .u32 0, .int .u32 0, .int .u32 0, .string ⟨#[]⟩, .int .u8 0, .slice none 0 0, .int .u8 kd, .int .u32 ao, .int .u32 av, .int .u8 0, .slice none 0 0, .slice none 0 0, .slice none 0 0, .int .u8 0]) rfl)
 obtain ⟨w3,hw3⟩:∃W,W=(w2.setCell ⟨w.heap.size+1,10,none⟩ (.int .u32 ao)).setCell ⟨w.heap.size+1,11,none⟩ (.int .u32 av):=⟨_,rfl⟩
 rw [←hw3] at HP3⊢
 clear hw3 HP2 c2 c2f c2z
 have c3:=HP3.out.x.cell
 have c3z:=HP3.out.x.lt
 go_upto_region 37 with (go_at_call 55;refine (HGT.out _ HP3.out.k).mono ?_;rintro e w4 ⟨rfl,hb4⟩;have HP4:=Hm (HP3.out.ext hb4);clear hb4 c3 c3z HGT HP3)
 have HP5:=Hm (HP4.out.ext ((Ext.refl w4).alloc (.cells #[.int .u32 qo, .int .u32 qv, .string qn, .int .u8 qi, .slice qa qc.length qcap] 44)))
 have HX5:=Hm (Blk.new w4 #[.int .u32 qo, .int .u32 qv, .string qn, .int .u8 qi, .slice qa qc.length qcap] 44)
 have HX2:=Hm (show w.heap.size+1<w4.heap.size from HP4.out.x.lt)
 obtain ⟨X,hX⟩:∃X,X=w4.heap.size:=⟨_,rfl⟩
 obtain ⟨w5,hw5⟩:∃W,W=w4.alloc (.cells #[.int .u32 qo, .int .u32 qv, .string qn, .int .u8 qi, .slice qa qc.length qcap] 44):=⟨_,rfl⟩
 rw [←hX] at HX2⊢
 rw [←hw5] at HP5⊢
 rw [←hX,←hw5] at HX5
 clear hX hw5 HP4
 have hXg:X≠g:=by have:=HX2.out;omega
 go_upto_region 40 with (go_at_call 56;refine (HT1.out _ HP5.out.r).mono ?_;rintro e w6 ⟨rfl,hr6,hk6⟩;have HP6:=Hm (HP5.out.call hr6 hk6);have HX6:=Hm (HX5.out.kp hk6 hXg);clear hr6 hk6 HT1 HP5 HX5)
 have c6:=HP6.out.x.cell
 have c6f:=HP6.out.x.frozen
 have c6z:=HP6.out.x.lt
 go_upto_region 46 with (fail)
 have HP7:=Hm ((HP6.out.set 12 (.int .u8 1) rfl).set 12 (.int .u8 2) (A' := #[.int .u8 68, .int .u32 0, .int .u64 0, .int .u32 0, .int .u32 0, .int .u32 0, .string ⟨#[]⟩, .int .u8 0, .slice none 0 0, .int .u8 kd, .int .u32 ao, .int .u32 av, .int .u8 2, .slice none 0 0, .slice none 0 0, .slice none 0 0, .int .u8 0]) rfl)
 have HX7:=Hm ((HX6.out.other ⟨w.heap.size+1,12,none⟩ (.int .u8 1) (by have:=HX2.out;show X≠w.heap.size+1;omega)).other ⟨w.heap.size+1,12,none⟩ (.int .u8 2) (by have:=HX2.out;show X≠w.heap.size+1;omega))
 obtain ⟨w7,hw7⟩:∃W,W=(w6.setCell ⟨w.heap.size+1,12,none⟩ (.int .u8 1)).setCell ⟨w.heap.size+1,12,none⟩ (.int .u8 2):=⟨_,rfl⟩
 rw [←hw7] at HP7 HX7⊢
 clear hw7 HP6 HX6 c6 c6f c6z
 have x7:=HX7.out.cell
 have x7z:=HX7.out.lt
 go_upto_region 47 with (go_at_call 57;refine (HI1.out _ HP7.out.r (HQI.out _ HP7.out.k)).mono ?_;rintro e w8 ⟨ab,cb,rfl,hs8,hn8,hr8,hk8⟩;have HP8:=Hm (HP7.out.call hr8 hk8);have HX8:=Hm (HX7.out.kp hk8 hXg);have HS8:=Hm hs8;have HN8:Hid (∀b o,ab=some ⟨b,o,none⟩→w.heap.size+2≤b):=Hm (fun b o e=>by have:=hn8 b o e;have:=HP7.out.x.lt;omega);have c8:=HP8.out.x.cell;have c8f:=HP8.out.x.frozen;have c8z:=HP8.out.x.lt;clear hs8 hn8 hr8 hk8 HI1 HP7 HX7 x7 x7z)
 have HP9:=Hm (HP8.out.set 13 (.slice ab b.length cb) (A' := #[.int .u8 68, .int .u32 0, .int .u64 0, .int .u32 0, .int .u32 0, .int .u32 0, .string ⟨#[]⟩, .int .u8 0, .slice none 0 0, .int .u8 kd, .int .u32 ao, .int .u32 av, .int .u8 2, .slice ab b.length cb, .slice none 0 0, .slice none 0 0, .int .u8 0]) rfl)
 have HX9:=Hm (HX8.out.other ⟨w.heap.size+1,13,none⟩ (.slice ab b.length cb) (by have:=HX2.out;show X≠w.heap.size+1;omega))
 have HS9:=Hm (PS.slk (w:=w) HS8.out HN8.out 13 (.slice ab b.length cb))
 obtain ⟨w9,hw9⟩:∃W,W=w8.setCell ⟨w.heap.size+1,13,none⟩ (.slice ab b.length cb):=⟨_,rfl⟩
 rw [←hw9] at HP9 HX9 HS9⊢
 clear hw9 HP8 HX8 HS8 c8 c8f c8z
 go_upto_region 48 with (fail)
 as_aux_lemma=>
  go_wp2_with (first
   |(refine wpList_load_to rfl 49 (.tmp 7) rfl _ _ ?e1 (PS.load HP9.out) ?_;(case e1=>go_simp))
   |(refine wpList_store_to rfl 49 (.tmp 6) (.tmp 181) rfl _ _ ?e1 ?e2 (PS.store HP9.out) ?_;(case e1=>go_simp);(case e2=>go_simp)))
  as_aux_lemma=>
   refine bodyPost_ret (res_pbody (Blk.c17 HP9.out.z) rfl) rfl ?_
   exact PS.done rfl HP9.out (p:=⟨68,0,0,0,R0,⟨⟨kd,ao,av,2,b, [], [],0⟩,ab,cb,none,0,none,0⟩⟩) rfl rfl ⟨RR.in_zero _,⟨HS9.out,⟨none,0,rfl, .inl rfl⟩,⟨none,0,rfl, .inl rfl⟩⟩⟩ ⟨fun h0=>absurd rfl h0,fun _ b o e=>HN8.out b o e,fun h0=>absurd rfl h0,fun h0=>absurd rfl h0⟩
end Go.Proofs.YtgmphpccpfaapaaGreatDoor
