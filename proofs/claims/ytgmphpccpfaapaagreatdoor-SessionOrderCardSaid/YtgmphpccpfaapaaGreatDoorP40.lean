/-
A message's body as the reference's reader takes it: what holds in the midst; a begin's, a commit's.
-/
import Derived.Test.YtgmphpccpfaapaaGreatDoorP39
import Derived.Test.YtgmphpccpfaapaaGreatDoorP29
import Derived.Test.YtgmphpccpfaapaaGreatDoorP21
import Derived.Test.YtgmphpccpfaapaaGreatDoorP3
set_option maxRecDepth 100000
set_option maxHeartbeats 16000000
namespace Go.Proofs.YtgmphpccpfaapaaGreatDoor
open Go.RowKit
theorem res_pbody {W:World} {b:Nat} {v0 v1 v2 v3 v4 v5 v6 v7 v8 v9 v10 v11 v12 v13 v14 v15 v16:Value} {tm:Array Value} (h:Blk W b #[v0,v1,v2,v3,v4,v5,v6,v7,v8,v9,v10,v11,v12,v13,v14,v15,v16] 49) (ht:tm.getD 6 undef= .pointer (some ⟨b,0,none⟩)):
 (results Tryz.f25 tm).run Tryz.prog W= .ok (.agg #[v0,v1,v2,v3,v4,v5,v6,v7,v8,v9,v10,v11,v12,v13,v14,v15,v16]) W:=by
 have c:=h.cell
 have c0:=c 0
 have c1:=c 1
 have c2:=c 2
 have c3:=c 3
 have c4:=c 4
 have c5:=c 5
 have c6:=c 6
 have c7:=c 7
 have c8:=c 8
 have c9:=c 9
 have c10:=c 10
 have c11:=c 11
 have c12:=c 12
 have c13:=c 13
 have c14:=c 14
 have c15:=c 15
 have c16:=c 16
 clear c h
 simp at c0 c1 c2 c3 c4 c5 c6 c7 c8 c9 c10 c11 c12 c13 c14 c15 c16
 rw [Array.getD_eq_getD_getElem?] at ht
 simp [results,Tryz.results25,go_sem,ht,c0,c1,c2,c3,c4,c5,c6,c7,c8,c9,c10,c11,c12,c13,c14,c15,c16]
def BodyPost (m:Msg) (g:Nat) (w:World) (e:Ending) (w' :World):Prop:=
 ∃p:ML,e= .returned p.agg∧p.m=m∧p.at 6 K.rc w'∧((p.r.r.cols≠ []→∀b o,p.r.a=some ⟨b,o,none⟩→w.heap.size≤b)∧p.e.on (fun b=>w.heap.size≤b))∧Rd w' g (strOfNums [])∧Kp (fun k=>k=g) w w'
structure PS (w:World) (g:Nat) (l:List Int) (A:Array Value) (W:World):Prop where
 r:Rd W g (strOfNums l)
 x:Blk W (w.heap.size+1) A 49
 z:Blk W w.heap.size #[.int .u8 0, .int .u32 0, .int .u64 0, .int .u32 0, .int .u32 0, .int .u32 0, .string ⟨#[]⟩, .int .u8 0, .slice none 0 0, .int .u8 0, .int .u32 0, .int .u32 0, .int .u8 0, .slice none 0 0, .slice none 0 0, .slice none 0 0, .int .u8 0] 49
 k:Kp (fun k=>k=g) w W
 g:g<w.heap.size
section
variable {w W W' : World} {g : Nat} {l l' : List Int} {A A' : Array Value}
theorem PS.call (h:PS w g l A W) (hr:Rd W' g (strOfNums l')) (hk:Kp (fun k=>k=g) W W'):PS w g l' A W' :=
 ⟨hr,h.x.kp hk (by have:=h.g;omega),h.z.kp hk (by have:=h.g;omega),h.k.trans hk (fun _ h _=>h),h.g⟩
theorem PS.ext (h:PS w g l A W) (he:Ext W W'):PS w g l A W' :=h.call (h.r.ext he) (Kp.of_ext he)
theorem PS.set (h:PS w g l A W) (i:Nat) (v:Value) (he:A.setIfInBounds i v=A'):PS w g l A' (W.setCell ⟨w.heap.size+1,i,none⟩ v):=
 ⟨h.r.other (by show g≠w.heap.size+1;have:=h.g;omega) _,he ▸ h.x.set i v,h.z.other _ _ (by simp),h.k.setN (by simp) _,h.g⟩
theorem PS.kp {S:Nat→Prop} (h:PS w g l A W) (hk:Kp S W W') (hs:∀x,S x→w.heap.size+2≤x):PS w g l A W' :=
 ⟨h.r.kp hk (fun e=>by have:=hs g e;have:=h.g;omega),h.x.kp hk (fun e=>by have:=hs _ e;omega),h.z.kp hk (fun e=>by have:=hs _ e;omega),h.k.trans hk (fun x hx hl=>by have:=hs x hx;omega),h.g⟩
end
theorem PS.start {w:World} {g:Nat} {l:List Int} (h:Rd w g (strOfNums l)) (c:Int):PS w g l #[.int .u8 c, .int .u32 0, .int .u64 0, .int .u32 0, .int .u32 0, .int .u32 0, .string ⟨#[]⟩, .int .u8 0, .slice none 0 0, .int .u8 0, .int .u32 0, .int .u32 0, .int .u8 0, .slice none 0 0, .slice none 0 0, .slice none 0 0, .int .u8 0] ((w.alloc (.cells #[.int .u8 0, .int .u32 0, .int .u64 0, .int .u32 0, .int .u32 0, .int .u32 0, .string ⟨#[]⟩, .int .u8 0, .slice none 0 0, .int .u8 0, .int .u32 0, .int .u32 0, .int .u8 0, .slice none 0 0, .slice none 0 0, .slice none 0 0, .int .u8 0] 49)).alloc (.cells #[.int .u8 c, .int .u32 0, .int .u64 0, .int .u32 0, .int .u32 0, .int .u32 0, .string ⟨#[]⟩, .int .u8 0, .slice none 0 0, .int .u8 0, .int .u32 0, .int .u32 0, .int .u8 0, .slice none 0 0, .slice none 0 0, .slice none 0 0, .int .u8 0] 49)):=
 ⟨(h.alloc _).alloc _,Blk.new' _ _ (by simp),(Blk.new w #[.int .u8 0, .int .u32 0, .int .u64 0, .int .u32 0, .int .u32 0, .int .u32 0, .string ⟨#[]⟩, .int .u8 0, .slice none 0 0, .int .u8 0, .int .u32 0, .int .u32 0, .int .u8 0, .slice none 0 0, .slice none 0 0, .slice none 0 0, .int .u8 0] 49).alloc _,Kp.of_ext (((Ext.refl w).alloc _).alloc _),h.lt⟩
theorem PS.done {w W:World} {g:Nat} {A:Array Value} {v0 v1 v2 v3 v4 v5 v6 v7 v8 v9 v10 v11 v12 v13 v14 v15 v16:Value} {W' :World}
 (hW' :W' =(((((((((((((((((W.setCell ⟨w.heap.size,0,none⟩ v0).setCell ⟨w.heap.size,1,none⟩ v1).setCell ⟨w.heap.size,2,none⟩ v2).setCell ⟨w.heap.size,3,none⟩ v3).setCell ⟨w.heap.size,4,none⟩ v4).setCell ⟨w.heap.size,5,none⟩ v5).setCell ⟨w.heap.size,6,none⟩ v6).setCell ⟨w.heap.size,7,none⟩ v7).setCell ⟨w.heap.size,8,none⟩ v8).setCell ⟨w.heap.size,9,none⟩ v9).setCell ⟨w.heap.size,10,none⟩ v10).setCell ⟨w.heap.size,11,none⟩ v11).setCell ⟨w.heap.size,12,none⟩ v12).setCell ⟨w.heap.size,13,none⟩ v13).setCell ⟨w.heap.size,14,none⟩ v14).setCell ⟨w.heap.size,15,none⟩ v15).setCell ⟨w.heap.size,16,none⟩ v16))
 (h:PS w g [] A W) {p:ML} {m:Msg} {e:Ending} (he:e= .returned p.agg) (hm:p.m=m) (hp:p.at 6 K.rc W) (hn:(p.r.r.cols≠ []→∀b o,p.r.a=some ⟨b,o,none⟩→w.heap.size+2≤b)∧p.e.on (fun b=>w.heap.size+2≤b)):BodyPost m g w e W' :=by
 have hk:Kp (fun k=>k=w.heap.size) W W' :=by rw [hW'];exact Kp.c17
 refine ⟨p,he,hm,⟨?_, ?_⟩,⟨fun h0 b o e=>by have:=hn.1 h0 b o e;omega,hn.2.mono (fun b hb=>by omega)⟩,h.r.kp hk (by have:=h.g;omega),h.k.trans hk (fun x hx hl=>by omega)⟩
 ·exact Sl.kp hp.1 hk (fun h0 b o e=>by have:=hn.1 (map_ne h0) b o e;omega)
 ·exact hp.2.kp hk (hn.2.mono (fun b hb=>by omega))
theorem PS.load {w W:World} {g:Nat} {l:List Int} {v0 v1 v2 v3 v4 v5 v6 v7 v8 v9 v10 v11 v12 v13 v14 v15 v16:Value} (h:PS w g l #[v0,v1,v2,v3,v4,v5,v6,v7,v8,v9,v10,v11,v12,v13,v14,v15,v16] W):
 (Instr.loadAt 49 (.pointer (some ⟨w.heap.size+1,0,none⟩))).run Tryz.prog W= .ok (.agg #[v0,v1,v2,v3,v4,v5,v6,v7,v8,v9,v10,v11,v12,v13,v14,v15,v16]) W:=rload17 h.x
theorem PS.store {w W:World} {g:Nat} {l:List Int} {i0 i1 i2 i3 i4 i5 i7 i9 i10 i11 i12 i16:Int} {s6:ByteArray} {a8 a13 a14 a15:Option Addr} {n8 c8 n13 c13 n14 c14 n15 c15:Nat} (h:PS w g l #[.int .u8 i0, .int .u32 i1, .int .u64 i2, .int .u32 i3, .int .u32 i4, .int .u32 i5, .string s6, .int .u8 i7, .slice a8 n8 c8, .int .u8 i9, .int .u32 i10, .int .u32 i11, .int .u8 i12, .slice a13 n13 c13, .slice a14 n14 c14, .slice a15 n15 c15, .int .u8 i16] W):
 (Instr.storeAt 49 (.pointer (some ⟨w.heap.size,0,none⟩)) (.agg #[.int .u8 i0, .int .u32 i1, .int .u64 i2, .int .u32 i3, .int .u32 i4, .int .u32 i5, .string s6, .int .u8 i7, .slice a8 n8 c8, .int .u8 i9, .int .u32 i10, .int .u32 i11, .int .u8 i12, .slice a13 n13 c13, .slice a14 n14 c14, .slice a15 n15 c15, .int .u8 i16])).run Tryz.prog W= .ok () (((((((((((((((((W.setCell ⟨w.heap.size,0,none⟩ (.int .u8 i0)).setCell ⟨w.heap.size,1,none⟩ (.int .u32 i1)).setCell ⟨w.heap.size,2,none⟩ (.int .u64 i2)).setCell ⟨w.heap.size,3,none⟩ (.int .u32 i3)).setCell ⟨w.heap.size,4,none⟩ (.int .u32 i4)).setCell ⟨w.heap.size,5,none⟩ (.int .u32 i5)).setCell ⟨w.heap.size,6,none⟩ (.string s6)).setCell ⟨w.heap.size,7,none⟩ (.int .u8 i7)).setCell ⟨w.heap.size,8,none⟩ (.slice a8 n8 c8)).setCell ⟨w.heap.size,9,none⟩ (.int .u8 i9)).setCell ⟨w.heap.size,10,none⟩ (.int .u32 i10)).setCell ⟨w.heap.size,11,none⟩ (.int .u32 i11)).setCell ⟨w.heap.size,12,none⟩ (.int .u8 i12)).setCell ⟨w.heap.size,13,none⟩ (.slice a13 n13 c13)).setCell ⟨w.heap.size,14,none⟩ (.slice a14 n14 c14)).setCell ⟨w.heap.size,15,none⟩ (.slice a15 n15 c15)).setCell ⟨w.heap.size,16,none⟩ (.int .u8 i16)):=rstore17 h.z
theorem pbodyB_any (x st:Int) (g:Nat) (cv:Value) (w:World) (h:Rd w g (strOfNums (octs x 4++octs st 8))) (hx:B32 x) (hst:0≤st∧st<18446744073709551616):
 Calls Tryz.prog 25 #[.pointer (some ⟨g,0,none⟩),cv, .int .u8 66] w (BodyPost ⟨66,x,st,0,Rl0,Ev0⟩ g w):=by
 have hg:=h.lt
 rw [show octs x 4++octs st 8=octs x 4++(octs st 8++ []) by rw [List.append_nil]] at h
 have HP:=Hm (PS.start h 66)
 have q1:=b32_wrap hx
 have HN1:=Hm (fun W (h:Rd W g (strOfNums (octs x 4++(octs st 8++ []))))=>show Calls Tryz.prog 51 #[.pointer (some ⟨g,0,none⟩), .int .u64 4] W (fun e w' =>e= .returned (.int .u64 x)∧Rd w' g (strOfNums (octs st 8++ []))∧Kp (fun k=>k=g) W w') from pnumO_any g x 4 _ W h (by simp [octs_len]) hx.1 (by rw [p4_256];exact hx.2) (by omega))
 have HN2:=Hm (fun W (h:Rd W g (strOfNums (octs st 8++ [])))=>show Calls Tryz.prog 51 #[.pointer (some ⟨g,0,none⟩), .int .u64 8] W (fun e w' =>e= .returned (.int .u64 st)∧Rd w' g (strOfNums [])∧Kp (fun k=>k=g) W w') from pnumO_any g st 8 _ W h (by simp) hst.1 (by rw [show (256:Int) ^ 8=18446744073709551616 by decide];exact hst.2) (by omega))
 clear h hx hst
 go_enter Tryz.func25,Tryz.ntmps25
 go_upto_region 5 with (go_at_call 51;refine (HN1.out _ HP.out.r).mono ?_;rintro e w1 ⟨rfl,hr1,hk1⟩;have HP1:=Hm (HP.out.call hr1 hk1);have c1:=HP1.out.x.cell;have c1f:=HP1.out.x.frozen;have c1z:=HP1.out.x.lt;clear hr1 hk1 HN1)
 have HP2:=Hm (HP1.out.set 1 (.int .u32 x) (A' := #[.int .u8 66, .int .u32 x, .int .u64 0, .int .u32 0, .int .u32 0, .int .u32 0, .string ⟨#[]⟩, .int .u8 0, .slice none 0 0, .int .u8 0, .int .u32 0, .int .u32 0, .int .u8 0, .slice none 0 0, .slice none 0 0, .slice none 0 0, .int .u8 0]) rfl)
 obtain ⟨w2,hw2⟩:∃W,W=w1.setCell ⟨w.heap.size+1,1,none⟩ (.int .u32 x):=⟨_,rfl⟩
 rw [←hw2] at HP2⊢
 clear hw2 HP1 HP c1 c1f c1z
 go_upto_region 6 with (go_at_call 51;refine (HN2.out _ HP2.out.r).mono ?_;rintro e w3 ⟨rfl,hr3,hk3⟩;have HP3:=Hm (HP2.out.call hr3 hk3);have c3:=HP3.out.x.cell;have c3f:=HP3.out.x.frozen;have c3z:=HP3.out.x.lt;clear hr3 hk3 HN2)
 have HP4:=Hm (HP3.out.set 2 (.int .u64 st) (A' := #[.int .u8 66, .int .u32 x, .int .u64 st, .int .u32 0, .int .u32 0, .int .u32 0, .string ⟨#[]⟩, .int .u8 0, .slice none 0 0, .int .u8 0, .int .u32 0, .int .u32 0, .int .u8 0, .slice none 0 0, .slice none 0 0, .slice none 0 0, .int .u8 0]) rfl)
 obtain ⟨w4,hw4⟩:∃W,W=w3.setCell ⟨w.heap.size+1,2,none⟩ (.int .u64 st):=⟨_,rfl⟩
 rw [←hw4] at HP4⊢
 clear hw4 HP3 HP2 c3 c3f c3z
 as_aux_lemma=>
  go_wp2_with (first
   |(refine wpList_load_to rfl 49 (.tmp 7) rfl _ _ ?e1 (PS.load HP4.out) ?_;(case e1=>go_simp))
   |(refine wpList_store_to rfl 49 (.tmp 6) (.tmp 29) rfl _ _ ?e1 ?e2 (PS.store HP4.out) ?_;(case e1=>go_simp);(case e2=>go_simp)))
  as_aux_lemma=>
   refine bodyPost_ret (res_pbody (Blk.c17 HP4.out.z) rfl) rfl ?_
   exact PS.done rfl HP4.out (p:=mlB x st) rfl rfl (mlB_at _ x st) ⟨fun h0=>absurd rfl h0,fun h0=>absurd rfl h0,fun h0=>absurd rfl h0,fun h0=>absurd rfl h0⟩
theorem pbodyC_any (x:Int) (n:Int) (g:Nat) (cv:Value) (w:World) (h:Rd w g (strOfNums (octs x 4++octs n 4))) (hx:B32 x) (hn:B32 n):
 Calls Tryz.prog 25 #[.pointer (some ⟨g,0,none⟩),cv, .int .u8 67] w (BodyPost ⟨67,x,0,n,Rl0,Ev0⟩ g w):=by
 have hg:=h.lt
 rw [show octs x 4++octs n 4=octs x 4++(octs n 4++ []) by rw [List.append_nil]] at h
 have HP:=Hm (PS.start h 67)
 have q1:=b32_wrap hx
 have q2:=b32_wrap hn
 have HN1:=Hm (fun W (h:Rd W g (strOfNums (octs x 4++(octs n 4++ []))))=>show Calls Tryz.prog 51 #[.pointer (some ⟨g,0,none⟩), .int .u64 4] W (fun e w' =>e= .returned (.int .u64 x)∧Rd w' g (strOfNums (octs n 4++ []))∧Kp (fun k=>k=g) W w') from pnumO_any g x 4 _ W h (by simp [octs_len]) hx.1 (by rw [p4_256];exact hx.2) (by omega))
 have HN2:=Hm (fun W (h:Rd W g (strOfNums (octs n 4++ [])))=>show Calls Tryz.prog 51 #[.pointer (some ⟨g,0,none⟩), .int .u64 4] W (fun e w' =>e= .returned (.int .u64 n)∧Rd w' g (strOfNums [])∧Kp (fun k=>k=g) W w') from pnumO_any g n 4 _ W h (by simp) hn.1 (by rw [p4_256];exact hn.2) (by omega))
 clear h hx hn
 go_enter Tryz.func25,Tryz.ntmps25
 go_upto_region 9 with (go_at_call 51;refine (HN1.out _ HP.out.r).mono ?_;rintro e w1 ⟨rfl,hr1,hk1⟩;have HP1:=Hm (HP.out.call hr1 hk1);have c1:=HP1.out.x.cell;have c1f:=HP1.out.x.frozen;have c1z:=HP1.out.x.lt;clear hr1 hk1 HN1)
 have HP2:=Hm (HP1.out.set 1 (.int .u32 x) (A' := #[.int .u8 67, .int .u32 x, .int .u64 0, .int .u32 0, .int .u32 0, .int .u32 0, .string ⟨#[]⟩, .int .u8 0, .slice none 0 0, .int .u8 0, .int .u32 0, .int .u32 0, .int .u8 0, .slice none 0 0, .slice none 0 0, .slice none 0 0, .int .u8 0]) rfl)
 obtain ⟨w2,hw2⟩:∃W,W=w1.setCell ⟨w.heap.size+1,1,none⟩ (.int .u32 x):=⟨_,rfl⟩
 rw [←hw2] at HP2⊢
 clear hw2 HP1 HP c1 c1f c1z
 go_upto_region 10 with (go_at_call 51;refine (HN2.out _ HP2.out.r).mono ?_;rintro e w3 ⟨rfl,hr3,hk3⟩;have HP3:=Hm (HP2.out.call hr3 hk3);have c3:=HP3.out.x.cell;have c3f:=HP3.out.x.frozen;have c3z:=HP3.out.x.lt;clear hr3 hk3 HN2)
 have HP4:=Hm (HP3.out.set 3 (.int .u32 n) (A' := #[.int .u8 67, .int .u32 x, .int .u64 0, .int .u32 n, .int .u32 0, .int .u32 0, .string ⟨#[]⟩, .int .u8 0, .slice none 0 0, .int .u8 0, .int .u32 0, .int .u32 0, .int .u8 0, .slice none 0 0, .slice none 0 0, .slice none 0 0, .int .u8 0]) rfl)
 obtain ⟨w4,hw4⟩:∃W,W=w3.setCell ⟨w.heap.size+1,3,none⟩ (.int .u32 n):=⟨_,rfl⟩
 rw [←hw4] at HP4⊢
 clear hw4 HP3 HP2 c3 c3f c3z
 as_aux_lemma=>
  go_wp2_with (first
   |(refine wpList_load_to rfl 49 (.tmp 7) rfl _ _ ?e1 (PS.load HP4.out) ?_;(case e1=>go_simp))
   |(refine wpList_store_to rfl 49 (.tmp 6) (.tmp 40) rfl _ _ ?e1 ?e2 (PS.store HP4.out) ?_;(case e1=>go_simp);(case e2=>go_simp)))
  as_aux_lemma=>
   refine bodyPost_ret (res_pbody (Blk.c17 HP4.out.z) rfl) rfl ?_
   exact PS.done rfl HP4.out (p:=⟨67,x,0,n,R0,E0⟩) rfl rfl ⟨RR.in_zero _,EL.at_zero 6 K.rc _⟩ ⟨fun h0=>absurd rfl h0,fun h0=>absurd rfl h0,fun h0=>absurd rfl h0,fun h0=>absurd rfl h0⟩
theorem sl_sub {W:World} {b o c m k:Nat} {l:List Int} (h:Sl W (.slice (some ⟨b,o,none⟩) l.length c) 1 (l.map bcell)) (hm:m+k≤l.length):Sl W (.slice (some ⟨b,o+m,none⟩) k (c - m)) 1 (((l.drop m).take k).map bcell):=by
 have h1:=sl_drop (m:=m) h (by omega)
 rw [←List.length_drop] at h1
 exact sl_take h1 (by rw [List.length_drop];omega)
theorem rlength_any (k:Int) (n:Nat) (rest L:List Int) (b o c:Nat) (w:World) (hL:L=k::(octs n 4++rest)) (h:Sl w (.slice (some ⟨b,o,none⟩) L.length c) 1 (L.map bcell)) (hc:L.length≤c) (hk:wlet k=true) (hn:n≤131072) (hl:L.length≤1000000000000000000):
 Calls Tryz.prog 24 #[.slice (some ⟨b,o,none⟩) L.length c] w fun e w' =>e= .returned (.tuple #[.int .i64 (5+n), .int .i64 0])∧w=w' :=by
 have hz:5≤L.length:=by rw [hL];simp [octs_len]
 have h0:L≠ []:=by rw [hL];simp
 obtain ⟨c0,b0⟩:=bcell_sl h h0
 have hg:L.getD 0 0=k:=by rw [hL];rfl
 rw [hg] at c0
 have HLT:=Hm (fun W=>rlet_any k W)
 rw [hk] at HLT
 have hcv:=conv_Sl (sl_sub (m:=1) (k:=4) h (by omega))
 have hd:(L.drop 1).take 4=octs n 4:=by rw [hL];show (octs n 4++rest).take 4=_;rw [List.take_append_of_le_length (by rw [octs_len];omega)];exact List.take_of_length_le (by rw [octs_len];omega)
 rw [hd] at hcv
 have HNB:=Hm (fun W=>rnumber19_any (octs n 4) W (octs_isB n 4) (by rw [octs_len];omega))
 rw [numL_octs 4 (n:Int) (by omega) (by rw [p4_256];omega)] at HNB
 obtain ⟨SB,hSB⟩:∃B,B=strOfNums (octs n 4):=⟨_,rfl⟩
 rw [←hSB] at hcv HNB
 obtain ⟨m,hm⟩:∃m,m=L.length:=⟨_,rfl⟩
 rw [←hm] at hz hc hl⊢
 have hm0: ¬ (m:Int)<5:=by omega
 have hm1:(0:Int)<m:=by omega
 have hcc: ¬ c - 1=0:=by omega
 have hw1:IntKind.i64.wrap (n:Int)=n:=by simp [IntKind.wrap,IntKind.signed,IntKind.bits];omega
 have hw2:IntKind.i64.wrap (5+(n:Int))=5+n:=by simp [IntKind.wrap,IntKind.signed,IntKind.bits];omega
 clear h h0 hg hk hL hd hSB hm
 go_enter Tryz.func24,Tryz.ntmps24
 go_wp2_with (first
  |(go_at_call 49;refine (HLT.out _).mono ?_;rintro e w1 ⟨rfl,rfl⟩)
  |(go_at_call 50;refine (HNB.out _).mono ?_;rintro e w2 ⟨rfl,rfl⟩))
 go_ret2
 exact ⟨rfl,rfl⟩
theorem res_parse {W:World} {b:Nat} {i5 i6 v0 v1 v2 v3 v4 v5 v6 v7 v8 v9 v10 v11 v12 v13 v14 v15 v16:Value} {tm:Array Value} (h:Blk W b #[v0,v1,v2,v3,v4,v5,v6,v7,v8,v9,v10,v11,v12,v13,v14,v15,v16] 49) (ht:tm.getD 4 undef= .pointer (some ⟨b,0,none⟩)) (ht5:tm.getD 5 undef=i5) (ht6:tm.getD 6 undef=i6):
 (results Tryz.f10 tm).run Tryz.prog W= .ok (.tuple #[.agg #[v0,v1,v2,v3,v4,v5,v6,v7,v8,v9,v10,v11,v12,v13,v14,v15,v16],i5,i6]) W:=by
 have c:=h.cell
 have c0:=c 0
 have c1:=c 1
 have c2:=c 2
 have c3:=c 3
 have c4:=c 4
 have c5:=c 5
 have c6:=c 6
 have c7:=c 7
 have c8:=c 8
 have c9:=c 9
 have c10:=c 10
 have c11:=c 11
 have c12:=c 12
 have c13:=c 13
 have c14:=c 14
 have c15:=c 15
 have c16:=c 16
 clear c h
 simp at c0 c1 c2 c3 c4 c5 c6 c7 c8 c9 c10 c11 c12 c13 c14 c15 c16
 rw [Array.getD_eq_getD_getElem?] at ht ht5 ht6
 simp [results,Tryz.results10,go_sem,ht,ht5,ht6,c0,c1,c2,c3,c4,c5,c6,c7,c8,c9,c10,c11,c12,c13,c14,c15,c16]
theorem ml_kp {W W' :World} {p:ML} {S:Nat→Prop} {N:Nat} (hp:p.at 6 K.rc W) (hn:(p.r.r.cols≠ []→∀b o,p.r.a=some ⟨b,o,none⟩→N≤b)∧p.e.on (fun b=>N≤b)) (hk:Kp S W W') (hS:∀x,S x→x<N):p.at 6 K.rc W' :=
 ⟨Sl.kp hp.1 hk (fun h0 b o e h=>by have:=hn.1 (map_ne h0) b o e;have:=hS b h;omega),hp.2.kp hk (hn.2.mono (fun b hb h=>by have:=hS b h;omega))⟩
def ParsePost (m:Msg) (w:World) (e:Ending) (w' :World):Prop:=∃p:ML,e= .returned (.tuple #[p.agg, .int .i64 (5+(bodyW m).length), .int .i64 0])∧p.m=m∧p.at 6 K.rc w'∧Ext w w'
theorem parse_of (m:Msg) (rest L:List Int) (b o c:Nat) (cv:Value) (w:World) (hL:L=m.k::(octs (bodyW m).length 4++(bodyW m++rest))) (h:Sl w (.slice (some ⟨b,o,none⟩) L.length c) 1 (L.map bcell)) (hc:L.length≤c) (hk:wlet m.k=true) (hn:(bodyW m).length≤131072) (h0N:0<(bodyW m).length) (hl:L.length≤1000000000000000000)
 (HB:∀g W,w.heap.size≤g→Ext w W→Rd W g (strOfNums (bodyW m))→Calls Tryz.prog 25 #[.pointer (some ⟨g,0,none⟩),cv, .int .u8 m.k] W (BodyPost m g W))
 (HR:∀(p:ML) W,Ext w W→p.m=m→p.at 6 K.rc W→Calls Tryz.prog 27 #[cv,p.agg] W fun e w' =>e= .returned (.int .i64 0)∧Ext W w'):
 Calls Tryz.prog 10 #[cv, .slice (some ⟨b,o,none⟩) L.length c] w (ParsePost m w):=by
 have hz:L.length=5+(bodyW m).length+rest.length:=by rw [hL];simp [octs_len];omega
 have h0:L≠ []:=by rw [hL];simp
 obtain ⟨c0,b0⟩:=bcell_sl h h0
 rw [show L.getD 0 0=m.k by rw [hL];rfl] at c0
 have HLN:=Hm (fun W (he:Ext w W)=>rlength_any m.k (bodyW m).length (bodyW m++rest) L b o c W hL (h.ext he) hc hk hn hl)
 have hcv0:∀W,Ext w W→_:=fun W he=>conv_Sl (sl_sub (m:=5) (k:=(bodyW m).length) (h.ext he) (by rw [hz];omega))
 have hd:(L.drop 5).take (bodyW m).length=bodyW m:=by
  rw [hL]
  show ((octs (bodyW m).length 4++(bodyW m++rest)).drop 4).take _=_
  rw [List.drop_left' (octs_len _ 4),List.take_left' rfl]
 rw [hd] at hcv0
 have HCV:=Hm hcv0
 have HBO:=Hm HB
 have HRG:=Hm HR
 unfold BodyPost at HBO
 obtain ⟨SB,hSB⟩:∃B,B=strOfNums (bodyW m):=⟨_,rfl⟩
 rw [←hSB] at HCV HBO
 obtain ⟨N,hN⟩:∃N,N=(bodyW m).length:=⟨_,rfl⟩
 rw [←hN] at HLN HCV hz hn h0N
 unfold ParsePost
 rw [←hN]
 obtain ⟨M,hM⟩:∃M,M=L.length:=⟨_,rfl⟩
 rw [←hM] at HLN hc hz hl⊢
 obtain ⟨mk,hmk⟩:∃x,x=m.k:=⟨_,rfl⟩
 rw [←hmk] at HBO c0
 have hlt: ¬ (M:Int)<5+(N:Int):=by omega
 have hM1:(0:Int)<M:=by omega
 have H5:Hid ((5:Int)≤5+(N:Int)):=Hm (by omega)
 have H5C:Hid (5+(N:Int)≤c):=Hm (by omega)
 have HCC:Hid (¬ c - 5=0):=Hm (by omega)
 have HNN:Hid (((5:Int)+N - 5).toNat=N):=Hm (by omega)
 have HNM:Hid ((5+(N:Int)).toNat=5+N):=Hm (by omega)
 have HX0:=Hm (Blk.new w #[.int .u8 0, .int .u32 0, .int .u64 0, .int .u32 0, .int .u32 0, .int .u32 0, .string ⟨#[]⟩, .int .u8 0, .slice none 0 0, .int .u8 0, .int .u32 0, .int .u32 0, .int .u8 0, .slice none 0 0, .slice none 0 0, .slice none 0 0, .int .u8 0] 49)
 have HE0:=Hm (show Ext w (w.alloc (.cells #[.int .u8 0, .int .u32 0, .int .u64 0, .int .u32 0, .int .u32 0, .int .u32 0, .string ⟨#[]⟩, .int .u8 0, .slice none 0 0, .int .u8 0, .int .u32 0, .int .u32 0, .int .u8 0, .slice none 0 0, .slice none 0 0, .slice none 0 0, .int .u8 0] 49)) from (Ext.refl w).alloc _)
 clear h h0 hL hd hSB hM hN hmk HB HR hcv0 hk hz h0N
 go_enter Tryz.func10,Tryz.ntmps10
 go_upto_region 6 with (go_at_call 24;refine (HLN.out _ HE0.out).mono ?_;rintro e w1 ⟨rfl,rfl⟩)
 obtain ⟨w1,hw1⟩:∃W,W=w.alloc (.cells #[.int .u8 0, .int .u32 0, .int .u64 0, .int .u32 0, .int .u32 0, .int .u32 0, .string ⟨#[]⟩, .int .u8 0, .slice none 0 0, .int .u8 0, .int .u32 0, .int .u32 0, .int .u8 0, .slice none 0 0, .slice none 0 0, .slice none 0 0, .int .u8 0] 49):=⟨_,rfl⟩
 obtain ⟨X,hX⟩:∃X,X=w.heap.size:=⟨_,rfl⟩
 rw [←hw1] at HE0 HX0⊢
 rw [←hX] at HX0⊢
 have HXW:=Hm hX
 have hcv:=HCV.out w1 HE0.out
 clear hw1 hX HLN
 have h5:=H5.out
 have h5c:=H5C.out
 have hcc:=HCC.out
 have hNn:=HNN.out
 go_upto_region 7 with (fail)
 clear hcv HCV h5 h5c hcc hNn H5 H5C HCC HNN HNM
 have HRD:=Hm (Blk.new w1 #[.string SB, .int .i64 0] 93)
 have HE2:=Hm (show Ext w (w1.alloc (.cells #[.string SB, .int .i64 0] 93)) from HE0.out.alloc _)
 have HX2:=Hm (HX0.out.alloc (.cells #[.string SB, .int .i64 0] 93))
 have hXg:=HX0.out.lt
 obtain ⟨w2,hw2⟩:∃W,W=w1.alloc (.cells #[.string SB, .int .i64 0] 93):=⟨_,rfl⟩
 have hg2:w1.heap.size<w2.heap.size:=by rw [hw2];simp
 obtain ⟨g,hg⟩:∃g,g=w1.heap.size:=⟨_,rfl⟩
 rw [←hw2,←hg] at HRD
 rw [←hw2] at HE2 HX2
 rw [←hg] at hXg hg2
 rw [←hw2,←hg]
 clear hw2 hg HE0 HX0
 have c2:=(HE2.out.cells.1 b o b0).trans c0
 have b2:=Nat.lt_of_lt_of_le b0 HE2.out.size
 clear c0
 go_upto_region 8 with (go_at_call 25;refine (HBO.out g w2 (by have:=HXW.out;omega) HE2.out HRD.out).mono ?_;rintro e w3 ⟨p,rfl,hpm,hpat,hpn,hr3,hk3⟩;have HPM:=Hm hpm;have HPA:=Hm hpat;have HPN:=Hm hpn;have HR3:Hid (Rd w3 g ⟨#[]⟩):=Hm hr3;have HX3:=Hm (HX2.out.kp hk3 (by omega));have HE3:=Hm (Kp.ext HE2.out (fun x hx _=>by have hx:x=g:=hx;have:=HXW.out;omega) hk3);clear hpm hpat hpn hr3 hk3 HBO HRD HX2 HE2 c2 b2;obtain ⟨k,x,st,n,⟨⟨po,pv,nm,id,cols⟩,ca,cc⟩,⟨⟨kd,ao,av,old,eb,aa,rs,fl⟩,ba,bc,aad,ac,ra,rc⟩⟩:=p;unfold ML.agg ML.arr;dsimp only)
 have HY4:=Hm (Blk.new w3 #[.int .u8 k, .int .u32 x, .int .u64 st, .int .u32 n, .int .u32 po, .int .u32 pv, .string nm, .int .u8 id, .slice ca cols.length cc, .int .u8 kd, .int .u32 ao, .int .u32 av, .int .u8 old, .slice ba eb.length bc, .slice aad aa.length ac, .slice ra rs.length rc, .int .u8 fl] 49)
 have HE4:=Hm (HE3.out.alloc (.cells #[.int .u8 k, .int .u32 x, .int .u64 st, .int .u32 n, .int .u32 po, .int .u32 pv, .string nm, .int .u8 id, .slice ca cols.length cc, .int .u8 kd, .int .u32 ao, .int .u32 av, .int .u8 old, .slice ba eb.length bc, .slice aad aa.length ac, .slice ra rs.length rc, .int .u8 fl] 49))
 have HX4:=Hm (HX3.out.alloc (.cells #[.int .u8 k, .int .u32 x, .int .u64 st, .int .u32 n, .int .u32 po, .int .u32 pv, .string nm, .int .u8 id, .slice ca cols.length cc, .int .u8 kd, .int .u32 ao, .int .u32 av, .int .u8 old, .slice ba eb.length bc, .slice aad aa.length ac, .slice ra rs.length rc, .int .u8 fl] 49))
 have HR4:=Hm (Blk.alloc HR3.out (.cells #[.int .u8 k, .int .u32 x, .int .u64 st, .int .u32 n, .int .u32 po, .int .u32 pv, .string nm, .int .u8 id, .slice ca cols.length cc, .int .u8 kd, .int .u32 ao, .int .u32 av, .int .u8 old, .slice ba eb.length bc, .slice aad aa.length ac, .slice ra rs.length rc, .int .u8 fl] 49))
 have HPA4:=Hm (HPA.out.ext ((Ext.refl w3).alloc (.cells #[.int .u8 k, .int .u32 x, .int .u64 st, .int .u32 n, .int .u32 po, .int .u32 pv, .string nm, .int .u8 id, .slice ca cols.length cc, .int .u8 kd, .int .u32 ao, .int .u32 av, .int .u8 old, .slice ba eb.length bc, .slice aad aa.length ac, .slice ra rs.length rc, .int .u8 fl] 49)))
 have hgY:=HR3.out.lt
 obtain ⟨Y,hY⟩:∃Y,Y=w3.heap.size:=⟨_,rfl⟩
 obtain ⟨w4,hw4⟩:∃W,W=w3.alloc (.cells #[.int .u8 k, .int .u32 x, .int .u64 st, .int .u32 n, .int .u32 po, .int .u32 pv, .string nm, .int .u8 id, .slice ca cols.length cc, .int .u8 kd, .int .u32 ao, .int .u32 av, .int .u8 old, .slice ba eb.length bc, .slice aad aa.length ac, .slice ra rs.length rc, .int .u8 fl] 49):=⟨_,rfl⟩
 rw [←hY,←hw4] at HY4
 rw [←hw4] at HE4 HX4 HR4 HPA4
 rw [←hY] at hgY
 rw [←hY,←hw4]
 clear hY hw4 HE3 HX3 HR3 HPA
 have r4:=HR4.out.cell
 have r4f:=HR4.out.frozen
 have r4z:=HR4.out.lt
 have HRG4:=Hm (HRG.out (⟨k,x,st,n,⟨⟨po,pv,nm,id,cols⟩,ca,cc⟩,⟨⟨kd,ao,av,old,eb,aa,rs,fl⟩,ba,bc,aad,ac,ra,rc⟩⟩:ML) w4 HE4.out HPM.out HPA4.out)
 unfold ML.agg ML.arr at HRG4
 dsimp only at HRG4
 clear HRG
 go_upto_region 11 with (fail)
 have hXY:X≠g:=by omega
 have hYg:Y≠g:=by omega
 have hYX:X≠Y:=by omega
 as_aux_lemma=>
  go_upto_region 12 with (first
   |(refine wpList_load_to rfl 49 (.tmp 10) rfl _ _ ?e1 (rload17 HY4.out) ?_;(case e1=>go_simp))
   |(go_at_call 27;refine HRG4.out.mono ?_;rintro e w5 ⟨rfl,hb5⟩;have HR5:=Hm (HR4.out.ext hb5);have HX5:=Hm (HX4.out.ext hb5);have HY5:=Hm (HY4.out.ext hb5);have HE5:=Hm (HE4.out.trans hb5);have HPA5:=Hm (HPA4.out.ext hb5);clear hb5 r4 r4f r4z;have r5:=HR5.out.cell;have r5f:=HR5.out.frozen;have r5z:=HR5.out.lt))
  have HR6:=Hm (show Rd (w5.setCell ⟨g,1,none⟩ (.int .i64 0)) g ⟨#[]⟩ from HR5.out.set 1 (.int .i64 0))
  have HX6:=Hm (HX5.out.other ⟨g,1,none⟩ (.int .i64 0) hXY)
  have HY6:=Hm (HY5.out.other ⟨g,1,none⟩ (.int .i64 0) hYg)
  have HE6:=Hm (HE5.out.setNew (p:=⟨g,1,none⟩) (by have:=HXW.out;show w.heap.size≤g;omega) (.int .i64 0))
  have HPA6:=Hm (ml_kp HPA5.out HPN.out (Kp.set (S:=fun k=>k=g) (w:=w5) ⟨g,1,none⟩ (.int .i64 0) rfl) (fun x hx=>by have hx:x=g:=hx;omega))
  obtain ⟨w6,hw6⟩:∃W,W=w5.setCell ⟨g,1,none⟩ (.int .i64 0):=⟨_,rfl⟩
  rw [←hw6] at HR6 HX6 HY6 HE6 HPA6⊢
  clear hw6 HR5 HX5 HY5 HE5 HPA5 r5 r5f r5z HR4 HX4 HY4 HE4 HPA4 HRG4
  have r6:=HR6.out.cell
  have r6z:=HR6.out.lt
  go_upto_region 14 with (fail)
  clear r6 r6z
  have HST:=Hm (show (Instr.storeAt 49 (.pointer (some ⟨X,0,none⟩)) (.agg #[.int .u8 k, .int .u32 x, .int .u64 st, .int .u32 n, .int .u32 po, .int .u32 pv, .string nm, .int .u8 id, .slice ca cols.length cc, .int .u8 kd, .int .u32 ao, .int .u32 av, .int .u8 old, .slice ba eb.length bc, .slice aad aa.length ac, .slice ra rs.length rc, .int .u8 fl])).run Tryz.prog w6= .ok () _ from rstore17 HX6.out)
  as_aux_lemma=>
   go_wp2_with (first
    |(refine wpList_load_to rfl 49 (.tmp 10) rfl _ _ ?e1 (rload17 HY6.out) ?_;(case e1=>go_simp))
    |(refine wpList_store_to rfl 49 (.tmp 4) (.tmp 72) rfl _ _ ?e1 ?e2 HST.out ?_;(case e1=>go_simp);(case e2=>go_simp)))
   as_aux_lemma=>
    refine bodyPost_ret (res_parse (Blk.c17 HX6.out) rfl rfl rfl) rfl ?_
    refine ⟨(⟨k,x,st,n,⟨⟨po,pv,nm,id,cols⟩,ca,cc⟩,⟨⟨kd,ao,av,old,eb,aa,rs,fl⟩,ba,bc,aad,ac,ra,rc⟩⟩:ML),rfl,HPM.out,ml_kp HPA6.out HPN.out (Kp.c17 (b:=X)) (fun x hx=>by have hx:x=X:=hx;omega), ?_⟩
    repeat refine Ext.setNew ?_ (by show w.heap.size≤X;rw [HXW.out];exact Nat.le_refl _) _
    exact HE6.out
end Go.Proofs.YtgmphpccpfaapaaGreatDoor
