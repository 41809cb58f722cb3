/-
A body's message, behind a door that recovers: the program's answer.
-/
import Derived.Defers
import Derived.Recover
import Derived.Deep.CutBlock
import Derived.Test.YtgmphpccpfaapaaGreatDoorP25
import Derived.Test.YtgmphpccpfaapaaGreatDoorP3
import Derived.Test.YtgmphpccpfaapaaGreatDoorP21
set_option maxRecDepth 100000
set_option maxHeartbeats 16000000
namespace Go.Proofs.YtgmphpccpfaapaaGreatDoor
open Go.RowKit
theorem body1_idle (p q:Addr) (w:World):
 CallsD Tryz.prog 136 #[.pointer (some p), .pointer (some q)] .returning w fun e u' w' =>e= .returned (.tuple #[])∧u' = .returning∧w' =w:=by
 refine callsD_of_wpS Tryz.func136 rfl fun c₀ cs hu=> ?_
 apply wpS_seq
 apply wpS_region
 simp [wpOpsS,go_sem,recoverD,hu,Tryz.ntmps136,Exit.thenS]
 apply wpS_seq
 apply wpS_seq
 apply wpS_region
 simp [wpOpsS,go_sem,Exit.thenS]
 refine wpS_cond (t:=true) (by simp [Act.eval]) ?_
 simp only [if_true]
 refine wpS_of_wp (wp_ret ?_)
 cases c₀
 simp_all [Exit.thenS,bodyPostS,results,Tryz.results136]
--BODIES
theorem bodyB_any (bb o cp N g:Nat) (c:Value) (ps:List RR) (w:World) (hs:Sl w (.slice (some ⟨bb,o,none⟩) 12 cp) 1 (bodyB.map bcell)) (hcp:12≤cp) (hk:Kin w) (hc:Ca w N g c ps):
 Calls Tryz.prog 106 #[.pointer (some ⟨g,0,none⟩), .int .u8 66, .slice (some ⟨bb,o,none⟩) 12 cp] w fun e w' =>e= .returned (.tuple #[(mlB 5 0).agg, .int .i64 0])∧Ext w w' :=by
 have hE1:Ext w (((w.alloc (.cells #[.int .u8 0, .int .u32 0, .int .u64 0, .int .u32 0, .int .u32 0, .int .u32 0, .string ⟨#[]⟩, .int .u8 0, .slice none 0 0, .int .u8 0, .int .u32 0, .int .u32 0, .int .u8 0, .slice none 0 0, .slice none 0 0, .slice none 0 0, .int .u8 0] 79)).alloc (.cells #[.int .i64 0] 29)).alloc (.cells #[.slice (some ⟨bb,o,none⟩) 12 cp] 226)):=(((Ext.refl w).alloc _).alloc _).alloc _
 have hrb:RBk (((w.alloc (.cells #[.int .u8 0, .int .u32 0, .int .u64 0, .int .u32 0, .int .u32 0, .int .u32 0, .string ⟨#[]⟩, .int .u8 0, .slice none 0 0, .int .u8 0, .int .u32 0, .int .u32 0, .int .u8 0, .slice none 0 0, .slice none 0 0, .slice none 0 0, .int .u8 0] 79)).alloc (.cells #[.int .i64 0] 29)).alloc (.cells #[.slice (some ⟨bb,o,none⟩) 12 cp] 226)) (w.heap.size+1+1) bodyB:=⟨some ⟨bb,o,none⟩,cp,Blk.new' _ _ (by simp),hs.ext hE1,hcp⟩
 have hx0:Blk (((w.alloc (.cells #[.int .u8 0, .int .u32 0, .int .u64 0, .int .u32 0, .int .u32 0, .int .u32 0, .string ⟨#[]⟩, .int .u8 0, .slice none 0 0, .int .u8 0, .int .u32 0, .int .u32 0, .int .u8 0, .slice none 0 0, .slice none 0 0, .slice none 0 0, .int .u8 0] 79)).alloc (.cells #[.int .i64 0] 29)).alloc (.cells #[.slice (some ⟨bb,o,none⟩) 12 cp] 226)) w.heap.size #[.int .u8 0, .int .u32 0, .int .u64 0, .int .u32 0, .int .u32 0, .int .u32 0, .string ⟨#[]⟩, .int .u8 0, .slice none 0 0, .int .u8 0, .int .u32 0, .int .u32 0, .int .u8 0, .slice none 0 0, .slice none 0 0, .slice none 0 0, .int .u8 0] 79:=((Blk.new _ _ _).alloc _).alloc _
 have hx1:Blk (((w.alloc (.cells #[.int .u8 0, .int .u32 0, .int .u64 0, .int .u32 0, .int .u32 0, .int .u32 0, .string ⟨#[]⟩, .int .u8 0, .slice none 0 0, .int .u8 0, .int .u32 0, .int .u32 0, .int .u8 0, .slice none 0 0, .slice none 0 0, .slice none 0 0, .int .u8 0] 79)).alloc (.cells #[.int .i64 0] 29)).alloc (.cells #[.slice (some ⟨bb,o,none⟩) 12 cp] 226)) (w.heap.size+1) #[.int .i64 0] 29:=(Blk.new' _ _ (by simp)).alloc _
 have HX0:=Hm hx0
 have HX1:=Hm hx1
 have HE1:=Hm hE1
 have HG:Hid (g<w.heap.size):=Hm hc.ptr.lt
 have HMG:=Hm (show Calls Tryz.prog 137 #[.pointer (some ⟨w.heap.size+1+1,0,none⟩), .pointer (some ⟨g,0,none⟩), .int .u8 66] (((w.alloc (.cells #[.int .u8 0, .int .u32 0, .int .u64 0, .int .u32 0, .int .u32 0, .int .u32 0, .string ⟨#[]⟩, .int .u8 0, .slice none 0 0, .int .u8 0, .int .u32 0, .int .u32 0, .int .u8 0, .slice none 0 0, .slice none 0 0, .slice none 0 0, .int .u8 0] 79)).alloc (.cells #[.int .i64 0] 29)).alloc (.cells #[.slice (some ⟨bb,o,none⟩) 12 cp] 226)) (fun e w' =>e= .returned (.agg #[.int .u8 66, .int .u32 5, .int .u64 0, .int .u32 0, .int .u32 0, .int .u32 0, .string ⟨#[]⟩, .int .u8 0, .slice none 0 0, .int .u8 0, .int .u32 0, .int .u32 0, .int .u8 0, .slice none 0 0, .slice none 0 0, .slice none 0 0, .int .u8 0])∧Kp (fun k=>k=w.heap.size+1+1) (((w.alloc (.cells #[.int .u8 0, .int .u32 0, .int .u64 0, .int .u32 0, .int .u32 0, .int .u32 0, .string ⟨#[]⟩, .int .u8 0, .slice none 0 0, .int .u8 0, .int .u32 0, .int .u32 0, .int .u8 0, .slice none 0 0, .slice none 0 0, .slice none 0 0, .int .u8 0] 79)).alloc (.cells #[.int .i64 0] 29)).alloc (.cells #[.slice (some ⟨bb,o,none⟩) 12 cp] 226)) w') from msgB_any (w.heap.size+1+1) N g c ps (((w.alloc (.cells #[.int .u8 0, .int .u32 0, .int .u64 0, .int .u32 0, .int .u32 0, .int .u32 0, .string ⟨#[]⟩, .int .u8 0, .slice none 0 0, .int .u8 0, .int .u32 0, .int .u32 0, .int .u8 0, .slice none 0 0, .slice none 0 0, .slice none 0 0, .int .u8 0] 79)).alloc (.cells #[.int .i64 0] 29)).alloc (.cells #[.slice (some ⟨bb,o,none⟩) 12 cp] 226)) hrb (hk.ext hE1) (hc.ext hE1) (by have:=hc.ptr.lt;omega) (fun W h=>by
  have hE:Ext w W:=Kp.ext hE1 (fun x hx _=>by have h2:x=w.heap.size+1+1:=hx;omega) h
  exact ⟨hk.ext hE,hc.ext hE⟩))
 have hmf:∀(fn:Fn) (first cap:Array Value) (w:World),(Instr.makeFunc fn first cap).run Tryz.prog w= .ok (.func fn first cap) w:=fun _ _ _ _=>rfl
 clear hs hk hc hrb hE1 hx0 hx1
 go_enter_defers Tryz.func106,Tryz.ntmps106
 go_wp2_with (first
  |(go_at_call 137;(refine HMG.out.mono ?_;rintro e w2 ⟨rfl,hk2⟩;have HK2:=Hm hk2;have HZ2:=Hm (HX0.out.kp hk2 (show ¬ w.heap.size=w.heap.size+1+1 by omega));have hx2:=HX1.out.kp hk2 (show ¬ w.heap.size+1=w.heap.size+1+1 by omega);have hex:∃w3,(Instr.storeAt 79 (.pointer (some ⟨w.heap.size,0,none⟩)) (.agg #[.int .u8 66, .int .u32 5, .int .u64 0, .int .u32 0, .int .u32 0, .int .u32 0, .string ⟨#[]⟩, .int .u8 0, .slice none 0 0, .int .u8 0, .int .u32 0, .int .u32 0, .int .u8 0, .slice none 0 0, .slice none 0 0, .slice none 0 0, .int .u8 0])).run Tryz.prog w2= .ok () w3∧Blk w3 w.heap.size #[.int .u8 66, .int .u32 5, .int .u64 0, .int .u32 0, .int .u32 0, .int .u32 0, .string ⟨#[]⟩, .int .u8 0, .slice none 0 0, .int .u8 0, .int .u32 0, .int .u32 0, .int .u8 0, .slice none 0 0, .slice none 0 0, .slice none 0 0, .int .u8 0] 79∧Blk w3 (w.heap.size+1) #[.int .i64 0] 29∧Kp (fun k=>k=w.heap.size) w2 w3:=⟨_,store17 HZ2.out,Blk.c17 HZ2.out,hx2.kp (Kp.w17 (Kp.refl (S:=fun k=>k=w.heap.size)) rfl) (show ¬ w.heap.size+1=w.heap.size by omega),Kp.w17 (Kp.refl (S:=fun k=>k=w.heap.size)) rfl⟩;obtain ⟨w3,hst,hb3,hx3,hk3⟩:=hex;have HST:=Hm hst;have HB3:=Hm hb3;have HX3:=Hm hx3;have HK3:=Hm hk3;have x3:=hx3.cell;have x3f:=hx3.frozen;have x3z:=hx3.lt;clear hst hb3 hx3 hk3 hx2;clear hk2))
  |(refine wpList_store_to rfl 79 (.tmp 6) (.tmp 16) rfl _ _ ?e1 ?e2 HST.out ?_;(case e1=>go_simp);(case e2=>go_simp)))
 have hb5:Blk (w3.setCell ⟨w.heap.size+1,0,none⟩ (.int .i64 0)) (w.heap.size+1) #[.int .i64 0] 29:=by simpa using HX3.out.set 0 (.int .i64 0)
 have hb6:Blk (w3.setCell ⟨w.heap.size+1,0,none⟩ (.int .i64 0)) w.heap.size #[.int .u8 66, .int .u32 5, .int .u64 0, .int .u32 0, .int .u32 0, .int .u32 0, .string ⟨#[]⟩, .int .u8 0, .slice none 0 0, .int .u8 0, .int .u32 0, .int .u32 0, .int .u8 0, .slice none 0 0, .slice none 0 0, .slice none 0 0, .int .u8 0] 79:=HB3.out.kp (Kp.set (S:=fun k=>k=w.heap.size+1) _ _ rfl) (show ¬ w.heap.size=w.heap.size+1 by omega)
 have he6:Ext w (w3.setCell ⟨w.heap.size+1,0,none⟩ (.int .i64 0)):=Ext.setCell (Kp.ext (Kp.ext HE1.out (fun x hx _=>by have h2:x=w.heap.size+1+1:=hx;omega) HK2.out) (fun x hx _=>by have h2:x=w.heap.size:=hx;omega) HK3.out) (by show w.heap.size≤w.heap.size+1;omega) _
 clear x3 x3f x3z HB3 HX3 HK3 HST HK2 HZ2
 obtain ⟨w6,hw6⟩:∃W,W=w3.setCell ⟨w.heap.size+1,0,none⟩ (.int .i64 0):=⟨_,rfl⟩
 rw [←hw6] at hb5 hb6 he6⊢
 have d0:=hb5.cell 0
 have c:=hb6.cell
 have c0:=c 0
 have c1:=c 1
 have c2:=c 2
 have c3:=c 3
 have c4:=c 4
 have c5:=c 5
 have c6:=c 6
 have c7:=c 7
 have c8:=c 8
 have c9:=c 9
 have c10:=c 10
 have c11:=c 11
 have c12:=c 12
 have c13:=c 13
 have c14:=c 14
 have c15:=c 15
 have c16:=c 16
 clear c hb5 hb6 hw6
 simp at d0 c0 c1 c2 c3 c4 c5 c6 c7 c8 c9 c10 c11 c12 c13 c14 c15 c16
 refine leaves_cons (f:=136) (args:= #[.pointer (some ⟨w.heap.size,0,none⟩), .pointer (some ⟨w.heap.size+1,0,none⟩)]) (by simp) (by simp [go_sem]) ?_
 refine (body1_idle ⟨w.heap.size,0,none⟩ ⟨w.heap.size+1,0,none⟩ _).mono ?_
 rintro e u' w'' ⟨rfl,rfl,rfl⟩
 simp [Leaves,settle,results,Tryz.results106,go_sem,d0,c0,c1,c2,c3,c4,c5,c6,c7,c8,c9,c10,c11,c12,c13,c14,c15,c16]
 exact ⟨rfl,he6⟩
theorem bodyC_any (bb o cp N g:Nat) (c:Value) (ps:List RR) (w:World) (hs:Sl w (.slice (some ⟨bb,o,none⟩) 8 cp) 1 (bodyC.map bcell)) (hcp:8≤cp) (hk:Kin w) (hc:Ca w N g c ps):
 Calls Tryz.prog 106 #[.pointer (some ⟨g,0,none⟩), .int .u8 67, .slice (some ⟨bb,o,none⟩) 8 cp] w fun e w' =>e= .returned (.tuple #[(mlC 5 0).agg, .int .i64 0])∧Ext w w' :=by
 have hE1:Ext w (((w.alloc (.cells #[.int .u8 0, .int .u32 0, .int .u64 0, .int .u32 0, .int .u32 0, .int .u32 0, .string ⟨#[]⟩, .int .u8 0, .slice none 0 0, .int .u8 0, .int .u32 0, .int .u32 0, .int .u8 0, .slice none 0 0, .slice none 0 0, .slice none 0 0, .int .u8 0] 79)).alloc (.cells #[.int .i64 0] 29)).alloc (.cells #[.slice (some ⟨bb,o,none⟩) 8 cp] 226)):=(((Ext.refl w).alloc _).alloc _).alloc _
 have hrb:RBk (((w.alloc (.cells #[.int .u8 0, .int .u32 0, .int .u64 0, .int .u32 0, .int .u32 0, .int .u32 0, .string ⟨#[]⟩, .int .u8 0, .slice none 0 0, .int .u8 0, .int .u32 0, .int .u32 0, .int .u8 0, .slice none 0 0, .slice none 0 0, .slice none 0 0, .int .u8 0] 79)).alloc (.cells #[.int .i64 0] 29)).alloc (.cells #[.slice (some ⟨bb,o,none⟩) 8 cp] 226)) (w.heap.size+1+1) bodyC:=⟨some ⟨bb,o,none⟩,cp,Blk.new' _ _ (by simp),hs.ext hE1,hcp⟩
 have hx0:Blk (((w.alloc (.cells #[.int .u8 0, .int .u32 0, .int .u64 0, .int .u32 0, .int .u32 0, .int .u32 0, .string ⟨#[]⟩, .int .u8 0, .slice none 0 0, .int .u8 0, .int .u32 0, .int .u32 0, .int .u8 0, .slice none 0 0, .slice none 0 0, .slice none 0 0, .int .u8 0] 79)).alloc (.cells #[.int .i64 0] 29)).alloc (.cells #[.slice (some ⟨bb,o,none⟩) 8 cp] 226)) w.heap.size #[.int .u8 0, .int .u32 0, .int .u64 0, .int .u32 0, .int .u32 0, .int .u32 0, .string ⟨#[]⟩, .int .u8 0, .slice none 0 0, .int .u8 0, .int .u32 0, .int .u32 0, .int .u8 0, .slice none 0 0, .slice none 0 0, .slice none 0 0, .int .u8 0] 79:=((Blk.new _ _ _).alloc _).alloc _
 have hx1:Blk (((w.alloc (.cells #[.int .u8 0, .int .u32 0, .int .u64 0, .int .u32 0, .int .u32 0, .int .u32 0, .string ⟨#[]⟩, .int .u8 0, .slice none 0 0, .int .u8 0, .int .u32 0, .int .u32 0, .int .u8 0, .slice none 0 0, .slice none 0 0, .slice none 0 0, .int .u8 0] 79)).alloc (.cells #[.int .i64 0] 29)).alloc (.cells #[.slice (some ⟨bb,o,none⟩) 8 cp] 226)) (w.heap.size+1) #[.int .i64 0] 29:=(Blk.new' _ _ (by simp)).alloc _
 have HX0:=Hm hx0
 have HX1:=Hm hx1
 have HE1:=Hm hE1
 have HG:Hid (g<w.heap.size):=Hm hc.ptr.lt
 have HMG:=Hm (show Calls Tryz.prog 137 #[.pointer (some ⟨w.heap.size+1+1,0,none⟩), .pointer (some ⟨g,0,none⟩), .int .u8 67] (((w.alloc (.cells #[.int .u8 0, .int .u32 0, .int .u64 0, .int .u32 0, .int .u32 0, .int .u32 0, .string ⟨#[]⟩, .int .u8 0, .slice none 0 0, .int .u8 0, .int .u32 0, .int .u32 0, .int .u8 0, .slice none 0 0, .slice none 0 0, .slice none 0 0, .int .u8 0] 79)).alloc (.cells #[.int .i64 0] 29)).alloc (.cells #[.slice (some ⟨bb,o,none⟩) 8 cp] 226)) (fun e w' =>e= .returned (.agg #[.int .u8 67, .int .u32 5, .int .u64 0, .int .u32 0, .int .u32 0, .int .u32 0, .string ⟨#[]⟩, .int .u8 0, .slice none 0 0, .int .u8 0, .int .u32 0, .int .u32 0, .int .u8 0, .slice none 0 0, .slice none 0 0, .slice none 0 0, .int .u8 0])∧Kp (fun k=>k=w.heap.size+1+1) (((w.alloc (.cells #[.int .u8 0, .int .u32 0, .int .u64 0, .int .u32 0, .int .u32 0, .int .u32 0, .string ⟨#[]⟩, .int .u8 0, .slice none 0 0, .int .u8 0, .int .u32 0, .int .u32 0, .int .u8 0, .slice none 0 0, .slice none 0 0, .slice none 0 0, .int .u8 0] 79)).alloc (.cells #[.int .i64 0] 29)).alloc (.cells #[.slice (some ⟨bb,o,none⟩) 8 cp] 226)) w') from msgC_any (w.heap.size+1+1) N g c ps (((w.alloc (.cells #[.int .u8 0, .int .u32 0, .int .u64 0, .int .u32 0, .int .u32 0, .int .u32 0, .string ⟨#[]⟩, .int .u8 0, .slice none 0 0, .int .u8 0, .int .u32 0, .int .u32 0, .int .u8 0, .slice none 0 0, .slice none 0 0, .slice none 0 0, .int .u8 0] 79)).alloc (.cells #[.int .i64 0] 29)).alloc (.cells #[.slice (some ⟨bb,o,none⟩) 8 cp] 226)) hrb (hk.ext hE1) (hc.ext hE1) (by have:=hc.ptr.lt;omega) (fun W h=>by
  have hE:Ext w W:=Kp.ext hE1 (fun x hx _=>by have h2:x=w.heap.size+1+1:=hx;omega) h
  exact ⟨hk.ext hE,hc.ext hE⟩))
 have hmf:∀(fn:Fn) (first cap:Array Value) (w:World),(Instr.makeFunc fn first cap).run Tryz.prog w= .ok (.func fn first cap) w:=fun _ _ _ _=>rfl
 clear hs hk hc hrb hE1 hx0 hx1
 go_enter_defers Tryz.func106,Tryz.ntmps106
 go_wp2_with (first
  |(go_at_call 137;(refine HMG.out.mono ?_;rintro e w2 ⟨rfl,hk2⟩;have HK2:=Hm hk2;have HZ2:=Hm (HX0.out.kp hk2 (show ¬ w.heap.size=w.heap.size+1+1 by omega));have hx2:=HX1.out.kp hk2 (show ¬ w.heap.size+1=w.heap.size+1+1 by omega);have hex:∃w3,(Instr.storeAt 79 (.pointer (some ⟨w.heap.size,0,none⟩)) (.agg #[.int .u8 67, .int .u32 5, .int .u64 0, .int .u32 0, .int .u32 0, .int .u32 0, .string ⟨#[]⟩, .int .u8 0, .slice none 0 0, .int .u8 0, .int .u32 0, .int .u32 0, .int .u8 0, .slice none 0 0, .slice none 0 0, .slice none 0 0, .int .u8 0])).run Tryz.prog w2= .ok () w3∧Blk w3 w.heap.size #[.int .u8 67, .int .u32 5, .int .u64 0, .int .u32 0, .int .u32 0, .int .u32 0, .string ⟨#[]⟩, .int .u8 0, .slice none 0 0, .int .u8 0, .int .u32 0, .int .u32 0, .int .u8 0, .slice none 0 0, .slice none 0 0, .slice none 0 0, .int .u8 0] 79∧Blk w3 (w.heap.size+1) #[.int .i64 0] 29∧Kp (fun k=>k=w.heap.size) w2 w3:=⟨_,store17 HZ2.out,Blk.c17 HZ2.out,hx2.kp (Kp.w17 (Kp.refl (S:=fun k=>k=w.heap.size)) rfl) (show ¬ w.heap.size+1=w.heap.size by omega),Kp.w17 (Kp.refl (S:=fun k=>k=w.heap.size)) rfl⟩;obtain ⟨w3,hst,hb3,hx3,hk3⟩:=hex;have HST:=Hm hst;have HB3:=Hm hb3;have HX3:=Hm hx3;have HK3:=Hm hk3;have x3:=hx3.cell;have x3f:=hx3.frozen;have x3z:=hx3.lt;clear hst hb3 hx3 hk3 hx2;clear hk2))
  |(refine wpList_store_to rfl 79 (.tmp 6) (.tmp 16) rfl _ _ ?e1 ?e2 HST.out ?_;(case e1=>go_simp);(case e2=>go_simp)))
 have hb5:Blk (w3.setCell ⟨w.heap.size+1,0,none⟩ (.int .i64 0)) (w.heap.size+1) #[.int .i64 0] 29:=by simpa using HX3.out.set 0 (.int .i64 0)
 have hb6:Blk (w3.setCell ⟨w.heap.size+1,0,none⟩ (.int .i64 0)) w.heap.size #[.int .u8 67, .int .u32 5, .int .u64 0, .int .u32 0, .int .u32 0, .int .u32 0, .string ⟨#[]⟩, .int .u8 0, .slice none 0 0, .int .u8 0, .int .u32 0, .int .u32 0, .int .u8 0, .slice none 0 0, .slice none 0 0, .slice none 0 0, .int .u8 0] 79:=HB3.out.kp (Kp.set (S:=fun k=>k=w.heap.size+1) _ _ rfl) (show ¬ w.heap.size=w.heap.size+1 by omega)
 have he6:Ext w (w3.setCell ⟨w.heap.size+1,0,none⟩ (.int .i64 0)):=Ext.setCell (Kp.ext (Kp.ext HE1.out (fun x hx _=>by have h2:x=w.heap.size+1+1:=hx;omega) HK2.out) (fun x hx _=>by have h2:x=w.heap.size:=hx;omega) HK3.out) (by show w.heap.size≤w.heap.size+1;omega) _
 clear x3 x3f x3z HB3 HX3 HK3 HST HK2 HZ2
 obtain ⟨w6,hw6⟩:∃W,W=w3.setCell ⟨w.heap.size+1,0,none⟩ (.int .i64 0):=⟨_,rfl⟩
 rw [←hw6] at hb5 hb6 he6⊢
 have d0:=hb5.cell 0
 have c:=hb6.cell
 have c0:=c 0
 have c1:=c 1
 have c2:=c 2
 have c3:=c 3
 have c4:=c 4
 have c5:=c 5
 have c6:=c 6
 have c7:=c 7
 have c8:=c 8
 have c9:=c 9
 have c10:=c 10
 have c11:=c 11
 have c12:=c 12
 have c13:=c 13
 have c14:=c 14
 have c15:=c 15
 have c16:=c 16
 clear c hb5 hb6 hw6
 simp at d0 c0 c1 c2 c3 c4 c5 c6 c7 c8 c9 c10 c11 c12 c13 c14 c15 c16
 refine leaves_cons (f:=136) (args:= #[.pointer (some ⟨w.heap.size,0,none⟩), .pointer (some ⟨w.heap.size+1,0,none⟩)]) (by simp) (by simp [go_sem]) ?_
 refine (body1_idle ⟨w.heap.size,0,none⟩ ⟨w.heap.size+1,0,none⟩ _).mono ?_
 rintro e u' w'' ⟨rfl,rfl,rfl⟩
 simp [Leaves,settle,results,Tryz.results106,go_sem,d0,c0,c1,c2,c3,c4,c5,c6,c7,c8,c9,c10,c11,c12,c13,c14,c15,c16]
 exact ⟨rfl,he6⟩
theorem wlength_any (bb o c:Nat) (l:List Int) (k x:Int) (w:World) (hs:Sl w (.slice (some ⟨bb,o,none⟩) l.length c) 1 (l.map bcell)) (h5:5≤l.length) (hc:l.length≤c) (hl:l.length≤100000) (hB:∀y∈l,0≤y∧y<256) (hk:l.getD 0 0=k) (hw:wlet k=true) (hx:numW ((l.drop 1).take 4)=x) (hx0:0≤x) (hx1:x≤131072):
 Calls Tryz.prog 105 #[.slice (some ⟨bb,o,none⟩) l.length c] w fun e w' =>e= .returned (.tuple #[.int .i64 (5+x), .int .i64 0])∧w=w' :=by
 have hne:l≠ []:=fun e=>by rw [e] at h5;simp at h5
 have hd:=bcell_sl hs hne
 rw [hk] at hd
 have hkb:=hB k (by
  rw [←hk]
  cases l with
  |nil=>exact absurd rfl hne
  |cons y r=>exact List.mem_cons_self ..)
 have HLT:=Hm (let_any k w hkb.1 hkb.2)
 rw [hw] at HLT
 have hs1:=sl_take (m:=4) (l:=l.drop 1) (b:=bb) (o:=o+1) (c:=c - 1) (by have h:=sl_drop hs (m:=1) (by omega);rw [List.length_drop];exact h) (by rw [List.length_drop];omega)
 obtain ⟨T,hT⟩:∃T,T=(l.drop 1).take 4:=⟨_,rfl⟩
 have hTn:T.length=4:=by rw [hT,List.length_take,List.length_drop];omega
 have HTB:Hid (∀y∈T,0≤y∧y<256):=Hm (fun y hy=>hB y (List.mem_of_mem_drop (List.mem_of_mem_take (by rw [←hT];exact hy))))
 rw [←hT] at hs1 hx
 have HS1:=Hm hs1
 have HXX:=Hm hx
 obtain ⟨d0,d1⟩:=hd
 have hc1: ¬ c - 1=0:=by omega
 have hwx:IntKind.i64.wrap x=x:=by simp [IntKind.wrap,IntKind.signed,IntKind.bits];omega
 have hwx5:IntKind.i64.wrap (5+x)=5+x:=by simp [IntKind.wrap,IntKind.signed,IntKind.bits];omega
 clear hs hB hk hw hkb hT hs1 hne hx
 go_enter Tryz.func105,Tryz.ntmps105
 go_wp2_with (go_at_call 71;refine HLT.out.mono ?_;rintro e w2 ⟨rfl,rfl⟩)
 clear d0 d1
 go_loopw [4,25] (fun v i wr=>∃k:Nat,k≤4∧i= .int .i64 k∧v= .int .u64 (numW (T.take k))∧Hid (wr=w)) (fun _ i _=>4 - (intOf i).toNat)
 case atStart=>exact ⟨0,Nat.zero_le _,rfl,rfl,Hm rfl⟩
 case round=>
  obtain ⟨k2,hk2,rfl,rfl,hww⟩:=hrel
  have hw2:=hww.out
  subst hw2
  by_cases hlt:k2<4
  ·have hlt' :k2<T.length:=by omega
   obtain ⟨b',o',e',hb,hcx⟩:=HS1.out.at_ (i:=k2) (by rw [List.length_map];omega)
   simp only [Option.some.injEq,Addr.mk.injEq,and_true] at e'
   obtain ⟨rfl,rfl⟩:=e'
   have hcc:wr.cell? ⟨bb,o+1+k2,none⟩=some (.int .u8 (T.getD k2 0)):=by
    have h:=hcx 0 (by omega)
    rw [Nat.mul_one,Nat.add_zero,getD_map bcell T hlt'] at h
    rw [h,List.getD_eq_getElem?_getD,List.getElem?_eq_getElem hlt']
    rfl
   have HS:Hid (numW (T.take (k2+1))=bits BinOp.or IntKind.u64 (IntKind.u64.wrap (numW (T.take k2)*256)) (T.getD k2 0)):=Hm (by
    unfold numW
    rw [List.take_succ_eq_append_getElem hlt',List.foldl_append,List.getD_eq_getElem?_getD,List.getElem?_eq_getElem hlt']
    rfl)
   have hx:=HTB.out _ (List.getElem_mem hlt')
   have hxe:T.getD k2 0=T[k2]:=by rw [List.getD_eq_getElem?_getD,List.getElem?_eq_getElem hlt'];rfl
   rw [←hxe] at hx
   obtain ⟨y,hxx⟩:∃x,x=T.getD k2 0:=⟨_,rfl⟩
   rw [←hxx] at hcc HS hx
   clear hxe hxx hcx
   have hwy:IntKind.u64.wrap y=y:=by simp [IntKind.wrap,IntKind.signed,IntKind.bits];omega
   go_wp2
   refine ⟨⟨k2+1,by omega,by go_num,by rw [HS.out],Hm trivial⟩, ?_⟩
   simp [intOf];omega
  ·obtain rfl:k2=4:=by omega
   have hTT:numW (T.take 4)=x:=by rw [←hTn,List.take_length];exact HXX.out
   rw [hTT]
   clear hTT
   go_wp2
   go_ret2
   exact ⟨rfl,rfl⟩
theorem wp_store_to {w w' :World} {o:Oper} {a:Act} {K:Act→World→Prop} {Q:Exit→Act→World→Prop} (ty:TypeId) (x y:Operand) (ho:o.op= .store ty x y)
 (p v:Value) (hx:a.eval x=p) (hy:a.eval y=v) (hr:(Instr.storeAt ty p v).run Tryz.prog w= .ok () w') (h:K (a.put o.dst undef) w'):o.wp Tryz.prog a w K Q:=by
 unfold Oper.wp execOp
 simp only [ho,Sem.run_bind,Sem.run_pure,Result.andThen_ok,hx,hy,hr]
 exact h
def msgBC:List Int:= [66,0,0,0,12,0,0,0,5,0,0,0,0,0,0,0,0,67,0,0,0,8,0,0,0,5,0,0,0,0]
def msgC1:List Int:= [67,0,0,0,8,0,0,0,5,0,0,0,0]
theorem msgBC_b:∀x∈msgBC,0≤x∧x<256:=by decide
theorem msgC1_b:∀x∈msgC1,0≤x∧x<256:=by decide
theorem res_wparse {W:World} {b:Nat} {v0 v1 v2 v3 v4 v5 v6 v7 v8 v9 v10 v11 v12 v13 v14 v15 v16 n e:Value} {tm:Array Value} (h:Blk W b #[v0,v1,v2,v3,v4,v5,v6,v7,v8,v9,v10,v11,v12,v13,v14,v15,v16] 79) (ht:tm.getD 4 undef= .pointer (some ⟨b,0,none⟩)) (h5:tm.getD 5 undef=n) (h6:tm.getD 6 undef=e):
 (results Tryz.f77 tm).run Tryz.prog W= .ok (.tuple #[.agg #[v0,v1,v2,v3,v4,v5,v6,v7,v8,v9,v10,v11,v12,v13,v14,v15,v16],n,e]) W:=by
 have c:=h.cell
 have c0:=c 0
 have c1:=c 1
 have c2:=c 2
 have c3:=c 3
 have c4:=c 4
 have c5:=c 5
 have c6:=c 6
 have c7:=c 7
 have c8:=c 8
 have c9:=c 9
 have c10:=c 10
 have c11:=c 11
 have c12:=c 12
 have c13:=c 13
 have c14:=c 14
 have c15:=c 15
 have c16:=c 16
 clear c h
 simp at c0 c1 c2 c3 c4 c5 c6 c7 c8 c9 c10 c11 c12 c13 c14 c15 c16
 rw [Array.getD_eq_getD_getElem?] at ht h5 h6
 simp [results,Tryz.results77,go_sem,ht,h5,h6,c0,c1,c2,c3,c4,c5,c6,c7,c8,c9,c10,c11,c12,c13,c14,c15,c16]
theorem stB {W:World} {b:Nat} (h:Blk W b #[.int .u8 0, .int .u32 0, .int .u64 0, .int .u32 0, .int .u32 0, .int .u32 0, .string ⟨#[]⟩, .int .u8 0, .slice none 0 0, .int .u8 0, .int .u32 0, .int .u32 0, .int .u8 0, .slice none 0 0, .slice none 0 0, .slice none 0 0, .int .u8 0] 79):∃w5,(Instr.storeAt 79 (.pointer (some ⟨b,0,none⟩)) (.agg #[.int .u8 66, .int .u32 5, .int .u64 0, .int .u32 0, .int .u32 0, .int .u32 0, .string ⟨#[]⟩, .int .u8 0, .slice none 0 0, .int .u8 0, .int .u32 0, .int .u32 0, .int .u8 0, .slice none 0 0, .slice none 0 0, .slice none 0 0, .int .u8 0])).run Tryz.prog W= .ok () w5∧Blk w5 b #[.int .u8 66, .int .u32 5, .int .u64 0, .int .u32 0, .int .u32 0, .int .u32 0, .string ⟨#[]⟩, .int .u8 0, .slice none 0 0, .int .u8 0, .int .u32 0, .int .u32 0, .int .u8 0, .slice none 0 0, .slice none 0 0, .slice none 0 0, .int .u8 0] 79∧Kp (fun k=>k=b) W w5:=
 ⟨_,store17 h,Blk.c17 h,Kp.w17 (Kp.refl (S:=fun k=>k=b)) rfl⟩
theorem parseB_any (bb o cp M g:Nat) (c:Value) (ps:List RR) (w:World) (hs:Sl w (.slice (some ⟨bb,o,none⟩) 30 cp) 1 (msgBC.map bcell)) (hcp:30≤cp) (hk:Kin w) (hc:Ca w M g c ps):
 Calls Tryz.prog 77 #[.pointer (some ⟨g,0,none⟩), .slice (some ⟨bb,o,none⟩) 30 cp] w fun e w' =>e= .returned (.tuple #[(mlB 5 0).agg, .int .i64 17, .int .i64 0])∧Ext w w' :=by
 have HLN:=Hm (fun W (h:Ext w W)=>show Calls Tryz.prog 105 #[.slice (some ⟨bb,o,none⟩) 30 cp] W (fun e w' =>e= .returned (.tuple #[.int .i64 17, .int .i64 0])∧W=w') from wlength_any bb o cp msgBC 66 12 W (hs.ext h) (by decide) hcp (by decide) msgBC_b rfl (by decide) (by decide+kernel) (by decide) (by decide))
 have HBD:=Hm (fun W (h:Ext w W)=>show Calls Tryz.prog 106 #[.pointer (some ⟨g,0,none⟩), .int .u8 66, .slice (some ⟨bb,o+5,none⟩) 12 (cp - 5)] W (fun e w' =>e= .returned (.tuple #[.agg #[.int .u8 66, .int .u32 5, .int .u64 0, .int .u32 0, .int .u32 0, .int .u32 0, .string ⟨#[]⟩, .int .u8 0, .slice none 0 0, .int .u8 0, .int .u32 0, .int .u32 0, .int .u8 0, .slice none 0 0, .slice none 0 0, .slice none 0 0, .int .u8 0], .int .i64 0])∧Ext W w') from bodyB_any bb (o+5) (cp - 5) M g c ps W ((sl_take (l:=msgBC.drop 5) (m:=12) (c:=cp - 5) (sl_drop (l:=msgBC) (m:=5) hs (by decide)) (by decide)).ext h) (by omega) (hk.ext h) (hc.ext h))
 have hd:=bcell_sl hs (by decide)
 have d0:w.cell? ⟨bb,o,none⟩=some (.int .u8 66):=hd.1
 have hbb:=hd.2
 have hcp5:((cp:Int) - 5).toNat=cp - 5:=by omega
 have hc0: ¬ cp=5:=by omega
 have hcpm:(17:Int)≤(cp:Int):=by omega
 clear hs hk hc hd
 go_enter Tryz.func77,Tryz.ntmps77
 go_upto_region 6 with (go_at_call 105;refine (HLN.out _ (by exact eX)).mono ?_;rintro e w1 ⟨rfl,rfl⟩)
 have HZ1:Hid (Blk (w.alloc (.cells #[.int .u8 0, .int .u32 0, .int .u64 0, .int .u32 0, .int .u32 0, .int .u32 0, .string ⟨#[]⟩, .int .u8 0, .slice none 0 0, .int .u8 0, .int .u32 0, .int .u32 0, .int .u8 0, .slice none 0 0, .slice none 0 0, .slice none 0 0, .int .u8 0] 79)) w.heap.size #[.int .u8 0, .int .u32 0, .int .u64 0, .int .u32 0, .int .u32 0, .int .u32 0, .string ⟨#[]⟩, .int .u8 0, .slice none 0 0, .int .u8 0, .int .u32 0, .int .u32 0, .int .u8 0, .slice none 0 0, .slice none 0 0, .slice none 0 0, .int .u8 0] 79):=Hm (Blk.new _ _ _)
 have HE1:Hid (Ext w (w.alloc (.cells #[.int .u8 0, .int .u32 0, .int .u64 0, .int .u32 0, .int .u32 0, .int .u32 0, .string ⟨#[]⟩, .int .u8 0, .slice none 0 0, .int .u8 0, .int .u32 0, .int .u32 0, .int .u8 0, .slice none 0 0, .slice none 0 0, .slice none 0 0, .int .u8 0] 79))):=Hm ((Ext.refl w).alloc _)
 have d1:=(HE1.out.cells.1 bb o hbb).trans d0
 have hb1:bb<(w.alloc (.cells #[.int .u8 0, .int .u32 0, .int .u64 0, .int .u32 0, .int .u32 0, .int .u32 0, .string ⟨#[]⟩, .int .u8 0, .slice none 0 0, .int .u8 0, .int .u32 0, .int .u32 0, .int .u8 0, .slice none 0 0, .slice none 0 0, .slice none 0 0, .int .u8 0] 79)).heap.size:=Nat.lt_of_lt_of_le hbb HE1.out.size
 obtain ⟨w1,hw1⟩:∃W,W=w.alloc (.cells #[.int .u8 0, .int .u32 0, .int .u64 0, .int .u32 0, .int .u32 0, .int .u32 0, .string ⟨#[]⟩, .int .u8 0, .slice none 0 0, .int .u8 0, .int .u32 0, .int .u32 0, .int .u8 0, .slice none 0 0, .slice none 0 0, .slice none 0 0, .int .u8 0] 79):=⟨_,rfl⟩
 rw [←hw1] at HZ1 HE1 d1 hb1⊢
 clear hw1 d0
 go_cut [8,9] (fun e p wx=>e= .int .i64 0∧∃X,p= .pointer (some ⟨X,0,none⟩)∧Hid (Blk wx X #[.int .u8 66, .int .u32 5, .int .u64 0, .int .u32 0, .int .u32 0, .int .u32 0, .string ⟨#[]⟩, .int .u8 0, .slice none 0 0, .int .u8 0, .int .u32 0, .int .u32 0, .int .u8 0, .slice none 0 0, .slice none 0 0, .slice none 0 0, .int .u8 0] 79)∧Hid (Blk wx w.heap.size #[.int .u8 0, .int .u32 0, .int .u64 0, .int .u32 0, .int .u32 0, .int .u32 0, .string ⟨#[]⟩, .int .u8 0, .slice none 0 0, .int .u8 0, .int .u32 0, .int .u32 0, .int .u8 0, .slice none 0 0, .slice none 0 0, .slice none 0 0, .int .u8 0] 79)∧Hid (Ext w wx))
 case first=>
  refine wp_region_head 13 (fun w' =>Ext (w1) w'∧(∀b o,b<(w1).heap.size→w'.cell? ⟨b,o,none⟩=(w1).cell? ⟨b,o,none⟩)∧(∀b o,b<(w1).heap.size→w'.frozen? ⟨b,o,none⟩=(w1).frozen? ⟨b,o,none⟩)) (by kernel_rfl) (by decide) ?_
  have hA0:Hid ((fun w' =>Ext (w1) w'∧(∀b o,b<(w1).heap.size→w'.cell? ⟨b,o,none⟩=(w1).cell? ⟨b,o,none⟩)∧(∀b o,b<(w1).heap.size→w'.frozen? ⟨b,o,none⟩=(w1).frozen? ⟨b,o,none⟩)) w1.drew):=held_of (by exact eX)
  refine HG.on 0 27 hA0.out ?_
  try simp only [Act.put,List.setIfInBounds_toArray,List.set_cons_zero,List.set_cons_succ]
  refine HG.on 1 28 hA0.out ?_
  try simp only [Act.put,List.setIfInBounds_toArray,List.set_cons_zero,List.set_cons_succ]
  refine HG.on 2 29 hA0.out ?_
  try simp only [Act.put,List.setIfInBounds_toArray,List.set_cons_zero,List.set_cons_succ]
  refine HG.on 3 30 hA0.out ?_
  try simp only [Act.put,List.setIfInBounds_toArray,List.set_cons_zero,List.set_cons_succ]
  refine HG.on 4 31 hA0.out ?_
  try simp only [Act.put,List.setIfInBounds_toArray,List.set_cons_zero,List.set_cons_succ]
  refine HG.on 5 32 hA0.out ?_
  try simp only [Act.put,List.setIfInBounds_toArray,List.set_cons_zero,List.set_cons_succ]
  refine HG.on 6 33 hA0.out ?_
  try simp only [Act.put,List.setIfInBounds_toArray,List.set_cons_zero,List.set_cons_succ]
  refine wpHd_two (i:=7) (j:=11) rfl rfl rfl rfl (by kernel_rfl) (fun KK hK=> ?_) (fun KK hK=> ?_)
  ·go_simp
   refine (HBD.out _ (by have:=HE1.out;exact eX)).mono ?_
   rintro e w3 ⟨rfl,hb3⟩
   have HX3:=Hm (show Ext w1 w3 by exact eX)
   refine hK.out _ _ (held_of HX3.out) (fun hA=> ?_)
   clear hK KK hA hA0 hb3
   have hA0:Hid ((fun w' =>Ext (w1) w'∧(∀b o,b<(w1).heap.size→w'.cell? ⟨b,o,none⟩=(w1).cell? ⟨b,o,none⟩)∧(∀b o,b<(w1).heap.size→w'.frozen? ⟨b,o,none⟩=(w1).frozen? ⟨b,o,none⟩)) w3):=held_of HX3.out
   refine HG.on 8 26 hA0.out ?_
   try simp only [Act.put,List.setIfInBounds_toArray,List.set_cons_zero,List.set_cons_succ]
   refine HG.on 9 35 hA0.out ?_
   try simp only [Act.put,List.setIfInBounds_toArray,List.set_cons_zero,List.set_cons_succ]
   refine HG.on 10 36 hA0.out ?_
   try simp only [Act.put,List.setIfInBounds_toArray,List.set_cons_zero,List.set_cons_succ]
   refine wpHd_one (i:=11) rfl rfl (by kernel_rfl) (fun KK hK=> ?_)
   go_simp
   have HX4:=Hm (show Blk (w3.alloc (.cells #[.int .u8 0, .int .u32 0, .int .u64 0, .int .u32 0, .int .u32 0, .int .u32 0, .string ⟨#[]⟩, .int .u8 0, .slice none 0 0, .int .u8 0, .int .u32 0, .int .u32 0, .int .u8 0, .slice none 0 0, .slice none 0 0, .slice none 0 0, .int .u8 0] 79)) w3.heap.size #[.int .u8 0, .int .u32 0, .int .u64 0, .int .u32 0, .int .u32 0, .int .u32 0, .string ⟨#[]⟩, .int .u8 0, .slice none 0 0, .int .u8 0, .int .u32 0, .int .u32 0, .int .u8 0, .slice none 0 0, .slice none 0 0, .slice none 0 0, .int .u8 0] 79 from Blk.new _ _ _)
   have HE4:=Hm (show Ext w1 (w3.alloc (.cells #[.int .u8 0, .int .u32 0, .int .u64 0, .int .u32 0, .int .u32 0, .int .u32 0, .string ⟨#[]⟩, .int .u8 0, .slice none 0 0, .int .u8 0, .int .u32 0, .int .u32 0, .int .u8 0, .slice none 0 0, .slice none 0 0, .slice none 0 0, .int .u8 0] 79)) from HX3.out.alloc _)
   refine hK.out _ _ (held_of HE4.out) (fun hA=> ?_)
   clear hK KK hA hA0
   obtain ⟨X,hX⟩:∃X,X=w3.heap.size:=⟨_,rfl⟩
   have hXl:w1.heap.size≤X:=by rw [hX];exact HX3.out.size
   obtain ⟨w4,hw4⟩:∃W,W=w3.alloc (.cells #[.int .u8 0, .int .u32 0, .int .u64 0, .int .u32 0, .int .u32 0, .int .u32 0, .string ⟨#[]⟩, .int .u8 0, .slice none 0 0, .int .u8 0, .int .u32 0, .int .u32 0, .int .u8 0, .slice none 0 0, .slice none 0 0, .slice none 0 0, .int .u8 0] 79):=⟨_,rfl⟩
   rw [←hX,←hw4] at HX4
   rw [←hw4] at HE4
   rw [←hX,←hw4]
   clear hX hw4
   obtain ⟨w5,hst,hx5,hk5⟩:=stB HX4.out
   have HX5:=Hm hx5
   have HK5:=Hm hk5
   refine wpHd_one (i:=12) rfl rfl (by kernel_rfl) (fun KK hK=> ?_)
   refine wp_store_to 79 (.tmp 9) (.tmp 35) rfl _ _ (by go_simp) (by go_simp) hst ?_
   have HE5:=Hm (Kp.ext HE4.out (fun x hx _=>by have h2:x=X:=hx;omega) HK5.out)
   refine hK.out _ _ (held_of HE5.out) (fun hA=> ?_)
   clear hK KK hA hst hx5 hk5
   refine wpHd_tail (by kernel_rfl) ?_
   simp only [List.drop_succ_cons,List.drop_zero]
   go_wp2
   go_meet
   case rel=>exact ⟨rfl,X,rfl,HX5,Hm ((HZ1.out.ext HE4.out).kp HK5.out (show ¬ w.heap.size=X by have:=HZ1.out.lt;omega)),Hm (HE1.out.trans HE5.out)⟩
  ·go_simp
   have HX2:=Hm (show Blk ((w1.alloc (.cells #[.int .u8 0, .int .u32 0, .int .u64 0, .int .u32 0, .int .u32 0, .int .u32 0, .string ⟨#[]⟩, .int .u8 0, .slice none 0 0, .int .u8 0, .int .u32 0, .int .u32 0, .int .u8 0, .slice none 0 0, .slice none 0 0, .slice none 0 0, .int .u8 0] 79)).drew) w1.heap.size #[.int .u8 0, .int .u32 0, .int .u64 0, .int .u32 0, .int .u32 0, .int .u32 0, .string ⟨#[]⟩, .int .u8 0, .slice none 0 0, .int .u8 0, .int .u32 0, .int .u32 0, .int .u8 0, .slice none 0 0, .slice none 0 0, .slice none 0 0, .int .u8 0] 79 from Blk.drew (Blk.new _ _ _))
   have HE2:=Hm (show Ext w1 ((w1.alloc (.cells #[.int .u8 0, .int .u32 0, .int .u64 0, .int .u32 0, .int .u32 0, .int .u32 0, .string ⟨#[]⟩, .int .u8 0, .slice none 0 0, .int .u8 0, .int .u32 0, .int .u32 0, .int .u8 0, .slice none 0 0, .slice none 0 0, .slice none 0 0, .int .u8 0] 79)).drew) from ((Ext.refl w1).alloc _).drew)
   refine hK.out _ _ (held_of HE2.out) (fun hA=> ?_)
   clear hK KK hA hA0
   obtain ⟨w2,hw2⟩:∃W,W=(w1.alloc (.cells #[.int .u8 0, .int .u32 0, .int .u64 0, .int .u32 0, .int .u32 0, .int .u32 0, .string ⟨#[]⟩, .int .u8 0, .slice none 0 0, .int .u8 0, .int .u32 0, .int .u32 0, .int .u8 0, .slice none 0 0, .slice none 0 0, .slice none 0 0, .int .u8 0] 79)).drew:=⟨_,rfl⟩
   rw [←hw2] at HX2
   rw [←hw2] at HE2
   rw [←hw2]
   clear hw2
   refine wpHd_one (i:=7) rfl rfl (by kernel_rfl) (fun KK hK=> ?_)
   go_simp
   refine (HBD.out _ (HE1.out.trans HE2.out)).mono ?_
   rintro e w4 ⟨rfl,hb3⟩
   have HX4:=Hm (HX2.out.ext hb3)
   have HE4:=Hm (HE2.out.trans hb3)
   refine hK.out _ _ (held_of HE4.out) (fun hA=> ?_)
   clear hK KK hA hb3
   have hA0:Hid ((fun w' =>Ext (w1) w'∧(∀b o,b<(w1).heap.size→w'.cell? ⟨b,o,none⟩=(w1).cell? ⟨b,o,none⟩)∧(∀b o,b<(w1).heap.size→w'.frozen? ⟨b,o,none⟩=(w1).frozen? ⟨b,o,none⟩)) w4):=held_of HE4.out
   refine HG.on 8 26 hA0.out ?_
   try simp only [Act.put,List.setIfInBounds_toArray,List.set_cons_zero,List.set_cons_succ]
   refine HG.on 9 35 hA0.out ?_
   try simp only [Act.put,List.setIfInBounds_toArray,List.set_cons_zero,List.set_cons_succ]
   refine HG.on 10 36 hA0.out ?_
   try simp only [Act.put,List.setIfInBounds_toArray,List.set_cons_zero,List.set_cons_succ]
   clear hA0
   obtain ⟨w5,hst,hx5,hk5⟩:=stB HX4.out
   have HX5:=Hm hx5
   have HK5:=Hm hk5
   refine wpHd_one (i:=12) rfl rfl (by kernel_rfl) (fun KK hK=> ?_)
   refine wp_store_to 79 (.tmp 9) (.tmp 35) rfl _ _ (by go_simp) (by go_simp) hst ?_
   have HE5:=Hm (Kp.ext HE4.out (fun x hx _=>by have h2:x=w1.heap.size:=hx;omega) HK5.out)
   refine hK.out _ _ (held_of HE5.out) (fun hA=> ?_)
   clear hK KK hA hst hx5 hk5
   refine wpHd_tail (by kernel_rfl) ?_
   simp only [List.drop_succ_cons,List.drop_zero]
   go_wp2
   go_meet
   case rel=>exact ⟨rfl,w1.heap.size,rfl,HX5,Hm ((HZ1.out.ext HE4.out).kp HK5.out (show ¬ w.heap.size=w1.heap.size by have:=HZ1.out.lt;omega)),Hm (HE1.out.trans HE5.out)⟩
 case rest=>
  obtain ⟨rfl,X,rfl,HX6,HZ6,HE6⟩:=hcut
  obtain ⟨w7,hst,hx7,hk7⟩:=stB HZ6.out
  clear d1 hb1
  as_aux_lemma=>
   go_wp2_with (first
    |(refine wpList_load_to rfl 79 (.tmp 9) rfl _ _ ?e1 (load17 HX6.out) ?_;(case e1=>go_simp))
    |(refine wpList_store_to rfl 79 (.tmp 4) (.tmp 41) rfl _ _ ?e1 ?e2 hst ?_;(case e1=>go_simp);(case e2=>go_simp)))
   as_aux_lemma=>
    exact bodyPost_ret (res_wparse hx7 rfl rfl rfl) rfl ⟨rfl,Kp.ext HE6.out (fun x hx _=>by have h2:x=w.heap.size:=hx;omega) hk7⟩
end Go.Proofs.YtgmphpccpfaapaaGreatDoor
