/-
Messages in memory; the program's own: a message with nothing but what is its kind's.
-/
import Derived.Test.YtgmphpccpfaapaaGreatDoorP18
import Derived.Test.YtgmphpccpfaapaaGreatDoorP7
import Derived.Test.YtgmphpccpfaapaaGreatDoorP3
import Derived.Test.YtgmphpccpfaapaaGreatDoorP19
set_option maxRecDepth 100000
set_option maxHeartbeats 16000000
namespace Go.Proofs.YtgmphpccpfaapaaGreatDoor
open Go.RowKit
structure ML where
 k:Int
 x:Int
 st:Int
 n:Int
 r:RR
 e:EL
def ML.m (p:ML):Msg:=⟨p.k,p.x,p.st,p.n,p.r.r,p.e.e⟩
def ML.arr (p:ML):Array Value:= #[.int .u8 p.k, .int .u32 p.x, .int .u64 p.st, .int .u32 p.n, .int .u32 p.r.r.oid, .int .u32 p.r.r.ver, .string p.r.r.nm, .int .u8 p.r.r.id, .slice p.r.a p.r.r.cols.length p.r.c, .int .u8 p.e.e.kind, .int .u32 p.e.e.ao, .int .u32 p.e.e.av, .int .u8 p.e.e.old, .slice p.e.ba p.e.e.b.length p.e.bc, .slice p.e.aa p.e.e.a.length p.e.ac, .slice p.e.ra p.e.e.rs.length p.e.rc, .int .u8 p.e.e.fl]
def ML.agg (p:ML):Value:= .agg p.arr
def ML.at (n:Nat) (f:K→List Value) (W:World) (p:ML):Prop:=p.r.in W∧p.e.at n f W
theorem ML.at.ext {n:Nat} {f:K→List Value} {W W' :World} {p:ML} (h:p.at n f W) (he:Ext W W'):p.at n f W' :=⟨h.1.ext he,h.2.ext he⟩
def ML.own (p:ML):ML:=
 let r0:RR:=⟨Rl0,none,0⟩
 let e0:EL:=⟨Ev0,none,0,none,0,none,0⟩
 if p.k=66 then ⟨66,p.x,p.st,0,r0,e0⟩ else if p.k=67 then ⟨67,p.x,0,p.n,r0,e0⟩ else if p.k=82 then ⟨82,0,0,0,p.r,e0⟩ else ⟨p.k,0,0,0,r0,p.e⟩
theorem RR.in_zero (W:World):(⟨Rl0,none,0⟩:RR).in W:=⟨none,0,rfl, .inl rfl⟩
theorem EL.at_zero (n:Nat) (f:K→List Value) (W:World):(⟨Ev0,none,0,none,0,none,0⟩:EL).at n f W:=⟨⟨none,0,rfl, .inl rfl⟩,⟨none,0,rfl, .inl rfl⟩,⟨none,0,rfl, .inl rfl⟩⟩
theorem ML.own_m (p:ML):p.own.m=p.m.own:=by
 unfold ML.own Msg.own ML.m
 simp only
 by_cases h1:p.k=66
 ·rw [if_pos h1,if_pos h1]
 ·rw [if_neg h1,if_neg h1]
  by_cases h2:p.k=67
  ·rw [if_pos h2,if_pos h2]
  ·rw [if_neg h2,if_neg h2]
   by_cases h3:p.k=82
   ·rw [if_pos h3,if_pos h3]
   ·rw [if_neg h3,if_neg h3]
theorem ML.own_at {n:Nat} {f:K→List Value} {W:World} {p:ML} (h:p.at n f W):p.own.at n f W:=by
 unfold ML.own
 simp only
 split
 ·exact ⟨RR.in_zero W,EL.at_zero n f W⟩
 ·split
  ·exact ⟨RR.in_zero W,EL.at_zero n f W⟩
  ·split
   ·exact ⟨h.1,EL.at_zero n f W⟩
   ·exact ⟨RR.in_zero W,h.2⟩
theorem Blk.c17 {W:World} {b:Nat} {t:TypeId} {u0 u1 u2 u3 u4 u5 u6 u7 u8 u9 u10 u11 u12 u13 u14 u15 u16 v0 v1 v2 v3 v4 v5 v6 v7 v8 v9 v10 v11 v12 v13 v14 v15 v16:Value} (h:Blk W b #[u0,u1,u2,u3,u4,u5,u6,u7,u8,u9,u10,u11,u12,u13,u14,u15,u16] t):Blk (((((((((((((((((W.setCell ⟨b,0,none⟩ v0).setCell ⟨b,1,none⟩ v1).setCell ⟨b,2,none⟩ v2).setCell ⟨b,3,none⟩ v3).setCell ⟨b,4,none⟩ v4).setCell ⟨b,5,none⟩ v5).setCell ⟨b,6,none⟩ v6).setCell ⟨b,7,none⟩ v7).setCell ⟨b,8,none⟩ v8).setCell ⟨b,9,none⟩ v9).setCell ⟨b,10,none⟩ v10).setCell ⟨b,11,none⟩ v11).setCell ⟨b,12,none⟩ v12).setCell ⟨b,13,none⟩ v13).setCell ⟨b,14,none⟩ v14).setCell ⟨b,15,none⟩ v15).setCell ⟨b,16,none⟩ v16) b #[v0,v1,v2,v3,v4,v5,v6,v7,v8,v9,v10,v11,v12,v13,v14,v15,v16] t:=by
 have h1:=(((((((((((((((((h.set 0 v0).set 1 v1).set 2 v2).set 3 v3).set 4 v4).set 5 v5).set 6 v6).set 7 v7).set 8 v8).set 9 v9).set 10 v10).set 11 v11).set 12 v12).set 13 v13).set 14 v14).set 15 v15).set 16 v16)
 simpa only [List.setIfInBounds_toArray,List.set_cons_zero,List.set_cons_succ] using h1
theorem Ext.c17 {W0 W:World} {b:Nat} {v0 v1 v2 v3 v4 v5 v6 v7 v8 v9 v10 v11 v12 v13 v14 v15 v16:Value} (h:Ext W0 W) (hb:W0.heap.size≤b):Ext W0 (((((((((((((((((W.setCell ⟨b,0,none⟩ v0).setCell ⟨b,1,none⟩ v1).setCell ⟨b,2,none⟩ v2).setCell ⟨b,3,none⟩ v3).setCell ⟨b,4,none⟩ v4).setCell ⟨b,5,none⟩ v5).setCell ⟨b,6,none⟩ v6).setCell ⟨b,7,none⟩ v7).setCell ⟨b,8,none⟩ v8).setCell ⟨b,9,none⟩ v9).setCell ⟨b,10,none⟩ v10).setCell ⟨b,11,none⟩ v11).setCell ⟨b,12,none⟩ v12).setCell ⟨b,13,none⟩ v13).setCell ⟨b,14,none⟩ v14).setCell ⟨b,15,none⟩ v15).setCell ⟨b,16,none⟩ v16):=by
 repeat refine Ext.setCell ?_ hb _
 exact h
theorem res_own {W:World} {b:Nat} {v0 v1 v2 v3 v4 v5 v6 v7 v8 v9 v10 v11 v12 v13 v14 v15 v16:Value} {tm:Array Value} (h:Blk W b #[v0,v1,v2,v3,v4,v5,v6,v7,v8,v9,v10,v11,v12,v13,v14,v15,v16] 79) (ht:tm.getD 2 undef= .pointer (some ⟨b,0,none⟩)):
 (results Tryz.f73 tm).run Tryz.prog W= .ok (.agg #[v0,v1,v2,v3,v4,v5,v6,v7,v8,v9,v10,v11,v12,v13,v14,v15,v16]) W:=by
 have c:=h.cell
 have c0:=c 0
 have c1:=c 1
 have c2:=c 2
 have c3:=c 3
 have c4:=c 4
 have c5:=c 5
 have c6:=c 6
 have c7:=c 7
 have c8:=c 8
 have c9:=c 9
 have c10:=c 10
 have c11:=c 11
 have c12:=c 12
 have c13:=c 13
 have c14:=c 14
 have c15:=c 15
 have c16:=c 16
 clear c h
 simp at c0 c1 c2 c3 c4 c5 c6 c7 c8 c9 c10 c11 c12 c13 c14 c15 c16
 rw [Array.getD_eq_getD_getElem?] at ht
 simp [results,Tryz.results73,go_sem,ht,c0,c1,c2,c3,c4,c5,c6,c7,c8,c9,c10,c11,c12,c13,c14,c15,c16]
theorem wpList_load_to {w:World} {ops:Array Oper} {rest:List Oper} {o:Oper} {a:Act} {Q:Exit→Act→World→Prop} (hgd:o.guard=none) (ty:TypeId) (x:Operand) (ho:o.op= .load ty x)
 (p v:Value) (hx:a.eval x=p) (hr:(Instr.loadAt ty p).run Tryz.prog w= .ok v w) (h:wpList Tryz.prog ops Q rest (a.put o.dst v) w):wpList Tryz.prog ops Q (o::rest) a w:=by
 refine wpList_plain hgd fun K hK=> ?_
 unfold Oper.wp execOp
 simp only [ho,Sem.run_bind,Sem.run_pure,Result.andThen_ok,hx,hr]
 exact hK _ _ h
theorem wpList_store_to {w w' :World} {ops:Array Oper} {rest:List Oper} {o:Oper} {a:Act} {Q:Exit→Act→World→Prop} (hgd:o.guard=none) (ty:TypeId) (x y:Operand) (ho:o.op= .store ty x y)
 (p v:Value) (hx:a.eval x=p) (hy:a.eval y=v) (hr:(Instr.storeAt ty p v).run Tryz.prog w= .ok () w') (h:wpList Tryz.prog ops Q rest (a.put o.dst undef) w'):wpList Tryz.prog ops Q (o::rest) a w:=by
 refine wpList_plain hgd fun K hK=> ?_
 unfold Oper.wp execOp
 simp only [ho,Sem.run_bind,Sem.run_pure,Result.andThen_ok,hx,hy,hr]
 exact hK _ _ h
theorem load17 {W:World} {b:Nat} {v0 v1 v2 v3 v4 v5 v6 v7 v8 v9 v10 v11 v12 v13 v14 v15 v16:Value} (h:Blk W b #[v0,v1,v2,v3,v4,v5,v6,v7,v8,v9,v10,v11,v12,v13,v14,v15,v16] 79):
 (Instr.loadAt 79 (.pointer (some ⟨b,0,none⟩))).run Tryz.prog W= .ok (.agg #[v0,v1,v2,v3,v4,v5,v6,v7,v8,v9,v10,v11,v12,v13,v14,v15,v16]) W:=by
 have c:=h.cell
 have c0:=c 0
 have c1:=c 1
 have c2:=c 2
 have c3:=c 3
 have c4:=c 4
 have c5:=c 5
 have c6:=c 6
 have c7:=c 7
 have c8:=c 8
 have c9:=c 9
 have c10:=c 10
 have c11:=c 11
 have c12:=c 12
 have c13:=c 13
 have c14:=c 14
 have c15:=c 15
 have c16:=c 16
 clear c h
 simp at c0 c1 c2 c3 c4 c5 c6 c7 c8 c9 c10 c11 c12 c13 c14 c15 c16
 simp [go_sem,c0,c1,c2,c3,c4,c5,c6,c7,c8,c9,c10,c11,c12,c13,c14,c15,c16]
theorem store17 {W:World} {b:Nat} {u0 u1 u2 u3 u4 u5 u6 u7 u8 u9 u10 u11 u12 u13 u14 u15 u16:Value} {i0 i1 i2 i3 i4 i5 i7 i9 i10 i11 i12 i16:Int} {s6:ByteArray} {a8 a13 a14 a15:Option Addr} {n8 c8 n13 c13 n14 c14 n15 c15:Nat} (h:Blk W b #[u0,u1,u2,u3,u4,u5,u6,u7,u8,u9,u10,u11,u12,u13,u14,u15,u16] 79):
 (Instr.storeAt 79 (.pointer (some ⟨b,0,none⟩)) (.agg #[.int .u8 i0, .int .u32 i1, .int .u64 i2, .int .u32 i3, .int .u32 i4, .int .u32 i5, .string s6, .int .u8 i7, .slice a8 n8 c8, .int .u8 i9, .int .u32 i10, .int .u32 i11, .int .u8 i12, .slice a13 n13 c13, .slice a14 n14 c14, .slice a15 n15 c15, .int .u8 i16])).run Tryz.prog W= .ok () (((((((((((((((((W.setCell ⟨b,0,none⟩ (.int .u8 i0)).setCell ⟨b,1,none⟩ (.int .u32 i1)).setCell ⟨b,2,none⟩ (.int .u64 i2)).setCell ⟨b,3,none⟩ (.int .u32 i3)).setCell ⟨b,4,none⟩ (.int .u32 i4)).setCell ⟨b,5,none⟩ (.int .u32 i5)).setCell ⟨b,6,none⟩ (.string s6)).setCell ⟨b,7,none⟩ (.int .u8 i7)).setCell ⟨b,8,none⟩ (.slice a8 n8 c8)).setCell ⟨b,9,none⟩ (.int .u8 i9)).setCell ⟨b,10,none⟩ (.int .u32 i10)).setCell ⟨b,11,none⟩ (.int .u32 i11)).setCell ⟨b,12,none⟩ (.int .u8 i12)).setCell ⟨b,13,none⟩ (.slice a13 n13 c13)).setCell ⟨b,14,none⟩ (.slice a14 n14 c14)).setCell ⟨b,15,none⟩ (.slice a15 n15 c15)).setCell ⟨b,16,none⟩ (.int .u8 i16)):=by
 have c:=h.cell
 have hf:=h.frozen
 have c0:=c 0
 have c1:=c 1
 have c2:=c 2
 have c3:=c 3
 have c4:=c 4
 have c5:=c 5
 have c6:=c 6
 have c7:=c 7
 have c8:=c 8
 have c9:=c 9
 have c10:=c 10
 have c11:=c 11
 have c12:=c 12
 have c13:=c 13
 have c14:=c 14
 have c15:=c 15
 have c16:=c 16
 clear c h
 simp at c0 c1 c2 c3 c4 c5 c6 c7 c8 c9 c10 c11 c12 c13 c14 c15 c16
 simp [go_sem,c0,c1,c2,c3,c4,c5,c6,c7,c8,c9,c10,c11,c12,c13,c14,c15,c16,hf]
theorem mown_B (xd st n oid ver:Int) (nm:ByteArray) (id:Int) (cols:List Col) (ca:Option Addr) (cc:Nat) (kd ao av old:Int) (lb la:List K) (rs:List Rf) (ba aa ra:Option Addr) (bc ac rc:Nat) (fl:Int) (w:World):
 Calls Tryz.prog 73 #[.agg #[.int .u8 66, .int .u32 xd, .int .u64 st, .int .u32 n, .int .u32 oid, .int .u32 ver, .string nm, .int .u8 id, .slice ca cols.length cc, .int .u8 kd, .int .u32 ao, .int .u32 av, .int .u8 old, .slice ba lb.length bc, .slice aa la.length ac, .slice ra rs.length rc, .int .u8 fl]] w fun e w' =>e= .returned (.agg #[.int .u8 66, .int .u32 xd, .int .u64 st, .int .u32 0, .int .u32 0, .int .u32 0, .string ⟨#[]⟩, .int .u8 0, .slice none 0 0, .int .u8 0, .int .u32 0, .int .u32 0, .int .u8 0, .slice none 0 0, .slice none 0 0, .slice none 0 0, .int .u8 0])∧Ext w w' :=by
 have HX:=Hm (Blk.new w #[.int .u8 66, .int .u32 xd, .int .u64 st, .int .u32 n, .int .u32 oid, .int .u32 ver, .string nm, .int .u8 id, .slice ca cols.length cc, .int .u8 kd, .int .u32 ao, .int .u32 av, .int .u8 old, .slice ba lb.length bc, .slice aa la.length ac, .slice ra rs.length rc, .int .u8 fl] 79)
 have HZ:=Hm (Blk.new' (w:=w.alloc (.cells #[.int .u8 66, .int .u32 xd, .int .u64 st, .int .u32 n, .int .u32 oid, .int .u32 ver, .string nm, .int .u8 id, .slice ca cols.length cc, .int .u8 kd, .int .u32 ao, .int .u32 av, .int .u8 old, .slice ba lb.length bc, .slice aa la.length ac, .slice ra rs.length rc, .int .u8 fl] 79)) (b:=w.heap.size+1) #[.int .u8 0, .int .u32 0, .int .u64 0, .int .u32 0, .int .u32 0, .int .u32 0, .string ⟨#[]⟩, .int .u8 0, .slice none 0 0, .int .u8 0, .int .u32 0, .int .u32 0, .int .u8 0, .slice none 0 0, .slice none 0 0, .slice none 0 0, .int .u8 0] 79 (by simp))
 have HK:=Hm (Blk.new' (w:=(w.alloc (.cells #[.int .u8 66, .int .u32 xd, .int .u64 st, .int .u32 n, .int .u32 oid, .int .u32 ver, .string nm, .int .u8 id, .slice ca cols.length cc, .int .u8 kd, .int .u32 ao, .int .u32 av, .int .u8 old, .slice ba lb.length bc, .slice aa la.length ac, .slice ra rs.length rc, .int .u8 fl] 79)).alloc (.cells #[.int .u8 0, .int .u32 0, .int .u64 0, .int .u32 0, .int .u32 0, .int .u32 0, .string ⟨#[]⟩, .int .u8 0, .slice none 0 0, .int .u8 0, .int .u32 0, .int .u32 0, .int .u8 0, .slice none 0 0, .slice none 0 0, .slice none 0 0, .int .u8 0] 79)) (b:=w.heap.size+1+1) #[.int .u8 66, .int .u32 0, .int .u64 0, .int .u32 0, .int .u32 0, .int .u32 0, .string ⟨#[]⟩, .int .u8 0, .slice none 0 0, .int .u8 0, .int .u32 0, .int .u32 0, .int .u8 0, .slice none 0 0, .slice none 0 0, .slice none 0 0, .int .u8 0] 79 (by simp))
 have HXZ:=Hm (HX.out.alloc (.cells #[.int .u8 0, .int .u32 0, .int .u64 0, .int .u32 0, .int .u32 0, .int .u32 0, .string ⟨#[]⟩, .int .u8 0, .slice none 0 0, .int .u8 0, .int .u32 0, .int .u32 0, .int .u8 0, .slice none 0 0, .slice none 0 0, .slice none 0 0, .int .u8 0] 79))
 obtain ⟨w3,hw3⟩:∃W,W=((w.alloc (.cells #[.int .u8 66, .int .u32 xd, .int .u64 st, .int .u32 n, .int .u32 oid, .int .u32 ver, .string nm, .int .u8 id, .slice ca cols.length cc, .int .u8 kd, .int .u32 ao, .int .u32 av, .int .u8 old, .slice ba lb.length bc, .slice aa la.length ac, .slice ra rs.length rc, .int .u8 fl] 79)).alloc (.cells #[.int .u8 0, .int .u32 0, .int .u64 0, .int .u32 0, .int .u32 0, .int .u32 0, .string ⟨#[]⟩, .int .u8 0, .slice none 0 0, .int .u8 0, .int .u32 0, .int .u32 0, .int .u8 0, .slice none 0 0, .slice none 0 0, .slice none 0 0, .int .u8 0] 79)).alloc (.cells #[.int .u8 66, .int .u32 0, .int .u64 0, .int .u32 0, .int .u32 0, .int .u32 0, .string ⟨#[]⟩, .int .u8 0, .slice none 0 0, .int .u8 0, .int .u32 0, .int .u32 0, .int .u8 0, .slice none 0 0, .slice none 0 0, .slice none 0 0, .int .u8 0] 79):=⟨_,rfl⟩
 have HE3:=Hm (show Ext w w3 by rw [hw3];exact (((Ext.refl w).alloc _).alloc _).alloc _)
 have HX3:=Hm (show Blk w3 w.heap.size #[.int .u8 66, .int .u32 xd, .int .u64 st, .int .u32 n, .int .u32 oid, .int .u32 ver, .string nm, .int .u8 id, .slice ca cols.length cc, .int .u8 kd, .int .u32 ao, .int .u32 av, .int .u8 old, .slice ba lb.length bc, .slice aa la.length ac, .slice ra rs.length rc, .int .u8 fl] 79 by rw [hw3];exact HXZ.out.alloc _)
 have HZ3:=Hm (show Blk w3 (w.heap.size+1) #[.int .u8 0, .int .u32 0, .int .u64 0, .int .u32 0, .int .u32 0, .int .u32 0, .string ⟨#[]⟩, .int .u8 0, .slice none 0 0, .int .u8 0, .int .u32 0, .int .u32 0, .int .u8 0, .slice none 0 0, .slice none 0 0, .slice none 0 0, .int .u8 0] 79 by rw [hw3];exact HZ.out.alloc _)
 have HK3:=Hm (show Blk w3 (w.heap.size+1+1) #[.int .u8 66, .int .u32 0, .int .u64 0, .int .u32 0, .int .u32 0, .int .u32 0, .string ⟨#[]⟩, .int .u8 0, .slice none 0 0, .int .u8 0, .int .u32 0, .int .u32 0, .int .u8 0, .slice none 0 0, .slice none 0 0, .slice none 0 0, .int .u8 0] 79 by rw [hw3];exact HK.out)
 have HW3:=Hm hw3
 clear HX HZ HK HXZ hw3
 go_enter Tryz.func73,Tryz.ntmps73
 go_upto_region 5 with (fail)
 rw [←HW3.out]
 have hA0:Hid ((fun w' =>(∀j,w'.cell? ⟨w.heap.size,j,none⟩=(#[.int .u8 66, .int .u32 xd, .int .u64 st, .int .u32 n, .int .u32 oid, .int .u32 ver, .string nm, .int .u8 id, .slice ca cols.length cc, .int .u8 kd, .int .u32 ao, .int .u32 av, .int .u8 old, .slice ba lb.length bc, .slice aa la.length ac, .slice ra rs.length rc, .int .u8 fl]:Array Value)[j]?)∧w.heap.size<w'.heap.size) w3.drew):=Hm ⟨HX3.out.cell,HX3.out.lt⟩
 refine wp_region_head 6 (fun w' =>(∀j,w'.cell? ⟨w.heap.size,j,none⟩=(#[.int .u8 66, .int .u32 xd, .int .u64 st, .int .u32 n, .int .u32 oid, .int .u32 ver, .string nm, .int .u8 id, .slice ca cols.length cc, .int .u8 kd, .int .u32 ao, .int .u32 av, .int .u8 old, .slice ba lb.length bc, .slice aa la.length ac, .slice ra rs.length rc, .int .u8 fl]:Array Value)[j]?)∧w.heap.size<w'.heap.size) (by kernel_rfl) (by decide) ?_
 (refine wpHd_take (i:=0) (v:= ?_) rfl (by kernel_rfl) (by kernel_rfl) (by kernel_rfl) (fun _ _ _ h=>h) (Or.inl ⟨by rfl, ?_⟩) hA0.out ?_;rotate_left 1; · (intro w' hS';(try dsimp only at hS');go_split_ands;go_simp;try with_reducible rfl))
 (refine wpHd_take (i:=1) (v:= ?_) rfl (by kernel_rfl) (by kernel_rfl) (by kernel_rfl) (fun _ _ _ h=>h) (Or.inl ⟨by rfl, ?_⟩) hA0.out ?_;rotate_left 1; · (intro w' hS';(try dsimp only at hS');go_split_ands;go_simp;try with_reducible rfl))
 (refine wpHd_take (i:=2) (v:= ?_) rfl (by kernel_rfl) (by kernel_rfl) (by kernel_rfl) (fun _ _ _ h=>h) (Or.inl ⟨by rfl, ?_⟩) hA0.out ?_;rotate_left 1; · (intro w' hS';(try dsimp only at hS');go_split_ands;go_simp;try with_reducible rfl))
 (refine wpHd_take (i:=3) (v:= ?_) rfl (by kernel_rfl) (by kernel_rfl) (by kernel_rfl) (fun _ _ _ h=>h) (Or.inl ⟨by rfl, ?_⟩) hA0.out ?_;rotate_left 1; · (intro w' hS';(try dsimp only at hS');go_split_ands;go_simp;try with_reducible rfl))
 (refine wpHd_take (i:=4) (v:= ?_) rfl (by kernel_rfl) (by kernel_rfl) (by kernel_rfl) (fun _ _ _ h=>h) (Or.inl ⟨by rfl, ?_⟩) hA0.out ?_;rotate_left 1; · (intro w' hS';(try dsimp only at hS');go_split_ands;go_simp;try with_reducible rfl))
 have gK:=HK3.out.cell
 have gKf:=HK3.out.frozen
 have zK:=HK3.out.lt
 refine wpHd_one (i:=5) rfl rfl (by kernel_rfl) (fun KK hK=> ?_)
 go_simp
 have HS:=Hm (Kp.set (S:=fun x=>x=w.heap.size+1+1) (w:=w3) ⟨w.heap.size+1+1,1,none⟩ (.int .u32 xd) rfl)
 have HX4:=Hm (Blk.drew (HX3.out.kp HS.out (show ¬ w.heap.size=w.heap.size+1+1 by omega)))
 have HK4:=Hm (Blk.drew (HK3.out.set 1 (.int .u32 xd)))
 simp only [List.setIfInBounds_toArray,List.set_cons_zero,List.set_cons_succ] at HK4
 refine hK.out _ _ ⟨HX4.out.cell,HX4.out.lt⟩ (fun hA=> ?_)
 clear hK KK hA hA0 gK gKf zK
 have HZ4:=Hm (Blk.drew (HZ3.out.kp HS.out (show ¬ w.heap.size+1=w.heap.size+1+1 by omega)))
 have HE4:=Hm (show Ext w ((w3.setCell ⟨w.heap.size+1+1,1,none⟩ (.int .u32 xd)).drew) by have:=HE3.out;exact eX)
 obtain ⟨w4,hw4⟩:∃W,W=(w3.setCell ⟨w.heap.size+1+1,1,none⟩ (.int .u32 xd)).drew:=⟨_,rfl⟩
 rw [←hw4] at HK4 HZ4 HE4⊢
 clear hw4 HX4 HX3 HW3 HE3 HS HZ3 HK3
 have gK:=HK4.out.cell
 have gKf:=HK4.out.frozen
 have zK:=HK4.out.lt
 refine wpHd_tail (by kernel_rfl) ?_
 simp only [List.drop_succ_cons,List.drop_zero]
 go_upto_region 10 with (fail)
 have HK5:=Hm (HK4.out.set 2 (.int .u64 st))
 simp only [List.setIfInBounds_toArray,List.set_cons_zero,List.set_cons_succ] at HK5
 have HS5:=Hm (Kp.set (S:=fun x=>x=w.heap.size+1+1) (w:=w4) ⟨w.heap.size+1+1,2,none⟩ (.int .u64 st) rfl)
 have HZ5:=Hm (HZ4.out.kp HS5.out (show ¬ w.heap.size+1=w.heap.size+1+1 by omega))
 have HE5:=Hm (show Ext w (w4.setCell ⟨w.heap.size+1+1,2,none⟩ (.int .u64 st)) from Ext.setCell HE4.out (by dsimp only;omega) _)
 clear gK gKf zK HK4 HZ4 HE4 HS5
 obtain ⟨w5,hw5⟩:∃W,W=w4.setCell ⟨w.heap.size+1+1,2,none⟩ (.int .u64 st):=⟨_,rfl⟩
 rw [←hw5] at HK5 HZ5 HE5⊢
 clear hw5
 have HS17:=Hm (show (Instr.storeAt 79 (.pointer (some ⟨w.heap.size+1,0,none⟩)) (.agg #[.int .u8 66, .int .u32 xd, .int .u64 st, .int .u32 0, .int .u32 0, .int .u32 0, .string ⟨#[]⟩, .int .u8 0, .slice none 0 0, .int .u8 0, .int .u32 0, .int .u32 0, .int .u8 0, .slice none 0 0, .slice none 0 0, .slice none 0 0, .int .u8 0])).run Tryz.prog w5= .ok () _ from store17 HZ5.out)
 as_aux_lemma=>
  go_wp2_with (first
   |(refine wpList_load_to rfl 79 (.tmp 3) rfl _ _ ?e1 (load17 HK5.out) ?_;(case e1=>go_simp))
   |(refine wpList_store_to rfl 79 (.tmp 2) (.tmp 33) rfl _ _ ?e1 ?e2 HS17.out ?_;(case e1=>go_simp);(case e2=>go_simp)))
  as_aux_lemma=>
   refine bodyPost_ret (res_own (Blk.c17 HZ5.out) rfl) rfl ⟨rfl,Ext.c17 HE5.out (by omega)⟩
theorem mown_C (xd st n oid ver:Int) (nm:ByteArray) (id:Int) (cols:List Col) (ca:Option Addr) (cc:Nat) (kd ao av old:Int) (lb la:List K) (rs:List Rf) (ba aa ra:Option Addr) (bc ac rc:Nat) (fl:Int) (w:World):
 Calls Tryz.prog 73 #[.agg #[.int .u8 67, .int .u32 xd, .int .u64 st, .int .u32 n, .int .u32 oid, .int .u32 ver, .string nm, .int .u8 id, .slice ca cols.length cc, .int .u8 kd, .int .u32 ao, .int .u32 av, .int .u8 old, .slice ba lb.length bc, .slice aa la.length ac, .slice ra rs.length rc, .int .u8 fl]] w fun e w' =>e= .returned (.agg #[.int .u8 67, .int .u32 xd, .int .u64 0, .int .u32 n, .int .u32 0, .int .u32 0, .string ⟨#[]⟩, .int .u8 0, .slice none 0 0, .int .u8 0, .int .u32 0, .int .u32 0, .int .u8 0, .slice none 0 0, .slice none 0 0, .slice none 0 0, .int .u8 0])∧Ext w w' :=by
 have HX:=Hm (Blk.new w #[.int .u8 67, .int .u32 xd, .int .u64 st, .int .u32 n, .int .u32 oid, .int .u32 ver, .string nm, .int .u8 id, .slice ca cols.length cc, .int .u8 kd, .int .u32 ao, .int .u32 av, .int .u8 old, .slice ba lb.length bc, .slice aa la.length ac, .slice ra rs.length rc, .int .u8 fl] 79)
 have HZ:=Hm (Blk.new' (w:=w.alloc (.cells #[.int .u8 67, .int .u32 xd, .int .u64 st, .int .u32 n, .int .u32 oid, .int .u32 ver, .string nm, .int .u8 id, .slice ca cols.length cc, .int .u8 kd, .int .u32 ao, .int .u32 av, .int .u8 old, .slice ba lb.length bc, .slice aa la.length ac, .slice ra rs.length rc, .int .u8 fl] 79)) (b:=w.heap.size+1) #[.int .u8 0, .int .u32 0, .int .u64 0, .int .u32 0, .int .u32 0, .int .u32 0, .string ⟨#[]⟩, .int .u8 0, .slice none 0 0, .int .u8 0, .int .u32 0, .int .u32 0, .int .u8 0, .slice none 0 0, .slice none 0 0, .slice none 0 0, .int .u8 0] 79 (by simp))
 have HK:=Hm (Blk.new' (w:=(w.alloc (.cells #[.int .u8 67, .int .u32 xd, .int .u64 st, .int .u32 n, .int .u32 oid, .int .u32 ver, .string nm, .int .u8 id, .slice ca cols.length cc, .int .u8 kd, .int .u32 ao, .int .u32 av, .int .u8 old, .slice ba lb.length bc, .slice aa la.length ac, .slice ra rs.length rc, .int .u8 fl] 79)).alloc (.cells #[.int .u8 0, .int .u32 0, .int .u64 0, .int .u32 0, .int .u32 0, .int .u32 0, .string ⟨#[]⟩, .int .u8 0, .slice none 0 0, .int .u8 0, .int .u32 0, .int .u32 0, .int .u8 0, .slice none 0 0, .slice none 0 0, .slice none 0 0, .int .u8 0] 79)) (b:=w.heap.size+1+1) #[.int .u8 67, .int .u32 0, .int .u64 0, .int .u32 0, .int .u32 0, .int .u32 0, .string ⟨#[]⟩, .int .u8 0, .slice none 0 0, .int .u8 0, .int .u32 0, .int .u32 0, .int .u8 0, .slice none 0 0, .slice none 0 0, .slice none 0 0, .int .u8 0] 79 (by simp))
 have HXZ:=Hm (HX.out.alloc (.cells #[.int .u8 0, .int .u32 0, .int .u64 0, .int .u32 0, .int .u32 0, .int .u32 0, .string ⟨#[]⟩, .int .u8 0, .slice none 0 0, .int .u8 0, .int .u32 0, .int .u32 0, .int .u8 0, .slice none 0 0, .slice none 0 0, .slice none 0 0, .int .u8 0] 79))
 obtain ⟨w3,hw3⟩:∃W,W=((w.alloc (.cells #[.int .u8 67, .int .u32 xd, .int .u64 st, .int .u32 n, .int .u32 oid, .int .u32 ver, .string nm, .int .u8 id, .slice ca cols.length cc, .int .u8 kd, .int .u32 ao, .int .u32 av, .int .u8 old, .slice ba lb.length bc, .slice aa la.length ac, .slice ra rs.length rc, .int .u8 fl] 79)).alloc (.cells #[.int .u8 0, .int .u32 0, .int .u64 0, .int .u32 0, .int .u32 0, .int .u32 0, .string ⟨#[]⟩, .int .u8 0, .slice none 0 0, .int .u8 0, .int .u32 0, .int .u32 0, .int .u8 0, .slice none 0 0, .slice none 0 0, .slice none 0 0, .int .u8 0] 79)).alloc (.cells #[.int .u8 67, .int .u32 0, .int .u64 0, .int .u32 0, .int .u32 0, .int .u32 0, .string ⟨#[]⟩, .int .u8 0, .slice none 0 0, .int .u8 0, .int .u32 0, .int .u32 0, .int .u8 0, .slice none 0 0, .slice none 0 0, .slice none 0 0, .int .u8 0] 79):=⟨_,rfl⟩
 have HE3:=Hm (show Ext w w3 by rw [hw3];exact (((Ext.refl w).alloc _).alloc _).alloc _)
 have HX3:=Hm (show Blk w3 w.heap.size #[.int .u8 67, .int .u32 xd, .int .u64 st, .int .u32 n, .int .u32 oid, .int .u32 ver, .string nm, .int .u8 id, .slice ca cols.length cc, .int .u8 kd, .int .u32 ao, .int .u32 av, .int .u8 old, .slice ba lb.length bc, .slice aa la.length ac, .slice ra rs.length rc, .int .u8 fl] 79 by rw [hw3];exact HXZ.out.alloc _)
 have HZ3:=Hm (show Blk w3 (w.heap.size+1) #[.int .u8 0, .int .u32 0, .int .u64 0, .int .u32 0, .int .u32 0, .int .u32 0, .string ⟨#[]⟩, .int .u8 0, .slice none 0 0, .int .u8 0, .int .u32 0, .int .u32 0, .int .u8 0, .slice none 0 0, .slice none 0 0, .slice none 0 0, .int .u8 0] 79 by rw [hw3];exact HZ.out.alloc _)
 have HK3:=Hm (show Blk w3 (w.heap.size+1+1) #[.int .u8 67, .int .u32 0, .int .u64 0, .int .u32 0, .int .u32 0, .int .u32 0, .string ⟨#[]⟩, .int .u8 0, .slice none 0 0, .int .u8 0, .int .u32 0, .int .u32 0, .int .u8 0, .slice none 0 0, .slice none 0 0, .slice none 0 0, .int .u8 0] 79 by rw [hw3];exact HK.out)
 have HW3:=Hm hw3
 clear HX HZ HK HXZ hw3
 go_enter Tryz.func73,Tryz.ntmps73
 go_upto_region 7 with (fail)
 rw [←HW3.out]
 have hA0:Hid ((fun w' =>(∀j,w'.cell? ⟨w.heap.size,j,none⟩=(#[.int .u8 67, .int .u32 xd, .int .u64 st, .int .u32 n, .int .u32 oid, .int .u32 ver, .string nm, .int .u8 id, .slice ca cols.length cc, .int .u8 kd, .int .u32 ao, .int .u32 av, .int .u8 old, .slice ba lb.length bc, .slice aa la.length ac, .slice ra rs.length rc, .int .u8 fl]:Array Value)[j]?)∧w.heap.size<w'.heap.size) w3.drew):=Hm ⟨HX3.out.cell,HX3.out.lt⟩
 refine wp_region_head 6 (fun w' =>(∀j,w'.cell? ⟨w.heap.size,j,none⟩=(#[.int .u8 67, .int .u32 xd, .int .u64 st, .int .u32 n, .int .u32 oid, .int .u32 ver, .string nm, .int .u8 id, .slice ca cols.length cc, .int .u8 kd, .int .u32 ao, .int .u32 av, .int .u8 old, .slice ba lb.length bc, .slice aa la.length ac, .slice ra rs.length rc, .int .u8 fl]:Array Value)[j]?)∧w.heap.size<w'.heap.size) (by kernel_rfl) (by decide) ?_
 (refine wpHd_take (i:=0) (v:= ?_) rfl (by kernel_rfl) (by kernel_rfl) (by kernel_rfl) (fun _ _ _ h=>h) (Or.inl ⟨by rfl, ?_⟩) hA0.out ?_;rotate_left 1; · (intro w' hS';(try dsimp only at hS');go_split_ands;go_simp;try with_reducible rfl))
 (refine wpHd_take (i:=1) (v:= ?_) rfl (by kernel_rfl) (by kernel_rfl) (by kernel_rfl) (fun _ _ _ h=>h) (Or.inl ⟨by rfl, ?_⟩) hA0.out ?_;rotate_left 1; · (intro w' hS';(try dsimp only at hS');go_split_ands;go_simp;try with_reducible rfl))
 (refine wpHd_take (i:=2) (v:= ?_) rfl (by kernel_rfl) (by kernel_rfl) (by kernel_rfl) (fun _ _ _ h=>h) (Or.inl ⟨by rfl, ?_⟩) hA0.out ?_;rotate_left 1; · (intro w' hS';(try dsimp only at hS');go_split_ands;go_simp;try with_reducible rfl))
 (refine wpHd_take (i:=3) (v:= ?_) rfl (by kernel_rfl) (by kernel_rfl) (by kernel_rfl) (fun _ _ _ h=>h) (Or.inl ⟨by rfl, ?_⟩) hA0.out ?_;rotate_left 1; · (intro w' hS';(try dsimp only at hS');go_split_ands;go_simp;try with_reducible rfl))
 (refine wpHd_take (i:=4) (v:= ?_) rfl (by kernel_rfl) (by kernel_rfl) (by kernel_rfl) (fun _ _ _ h=>h) (Or.inl ⟨by rfl, ?_⟩) hA0.out ?_;rotate_left 1; · (intro w' hS';(try dsimp only at hS');go_split_ands;go_simp;try with_reducible rfl))
 have gK:=HK3.out.cell
 have gKf:=HK3.out.frozen
 have zK:=HK3.out.lt
 refine wpHd_one (i:=5) rfl rfl (by kernel_rfl) (fun KK hK=> ?_)
 go_simp
 have HS:=Hm (Kp.set (S:=fun x=>x=w.heap.size+1+1) (w:=w3) ⟨w.heap.size+1+1,1,none⟩ (.int .u32 xd) rfl)
 have HX4:=Hm (Blk.drew (HX3.out.kp HS.out (show ¬ w.heap.size=w.heap.size+1+1 by omega)))
 have HK4:=Hm (Blk.drew (HK3.out.set 1 (.int .u32 xd)))
 simp only [List.setIfInBounds_toArray,List.set_cons_zero,List.set_cons_succ] at HK4
 refine hK.out _ _ ⟨HX4.out.cell,HX4.out.lt⟩ (fun hA=> ?_)
 clear hK KK hA hA0 gK gKf zK
 have HZ4:=Hm (Blk.drew (HZ3.out.kp HS.out (show ¬ w.heap.size+1=w.heap.size+1+1 by omega)))
 have HE4:=Hm (show Ext w ((w3.setCell ⟨w.heap.size+1+1,1,none⟩ (.int .u32 xd)).drew) by have:=HE3.out;exact eX)
 obtain ⟨w4,hw4⟩:∃W,W=(w3.setCell ⟨w.heap.size+1+1,1,none⟩ (.int .u32 xd)).drew:=⟨_,rfl⟩
 rw [←hw4] at HK4 HZ4 HE4⊢
 clear hw4 HX4 HX3 HW3 HE3 HS HZ3 HK3
 have gK:=HK4.out.cell
 have gKf:=HK4.out.frozen
 have zK:=HK4.out.lt
 refine wpHd_tail (by kernel_rfl) ?_
 simp only [List.drop_succ_cons,List.drop_zero]
 go_upto_region 10 with (fail)
 have HK5:=Hm (HK4.out.set 3 (.int .u32 n))
 simp only [List.setIfInBounds_toArray,List.set_cons_zero,List.set_cons_succ] at HK5
 have HS5:=Hm (Kp.set (S:=fun x=>x=w.heap.size+1+1) (w:=w4) ⟨w.heap.size+1+1,3,none⟩ (.int .u32 n) rfl)
 have HZ5:=Hm (HZ4.out.kp HS5.out (show ¬ w.heap.size+1=w.heap.size+1+1 by omega))
 have HE5:=Hm (show Ext w (w4.setCell ⟨w.heap.size+1+1,3,none⟩ (.int .u32 n)) from Ext.setCell HE4.out (by dsimp only;omega) _)
 clear gK gKf zK HK4 HZ4 HE4 HS5
 obtain ⟨w5,hw5⟩:∃W,W=w4.setCell ⟨w.heap.size+1+1,3,none⟩ (.int .u32 n):=⟨_,rfl⟩
 rw [←hw5] at HK5 HZ5 HE5⊢
 clear hw5
 have HS17:=Hm (show (Instr.storeAt 79 (.pointer (some ⟨w.heap.size+1,0,none⟩)) (.agg #[.int .u8 67, .int .u32 xd, .int .u64 0, .int .u32 n, .int .u32 0, .int .u32 0, .string ⟨#[]⟩, .int .u8 0, .slice none 0 0, .int .u8 0, .int .u32 0, .int .u32 0, .int .u8 0, .slice none 0 0, .slice none 0 0, .slice none 0 0, .int .u8 0])).run Tryz.prog w5= .ok () _ from store17 HZ5.out)
 as_aux_lemma=>
  go_wp2_with (first
   |(refine wpList_load_to rfl 79 (.tmp 3) rfl _ _ ?e1 (load17 HK5.out) ?_;(case e1=>go_simp))
   |(refine wpList_store_to rfl 79 (.tmp 2) (.tmp 33) rfl _ _ ?e1 ?e2 HS17.out ?_;(case e1=>go_simp);(case e2=>go_simp)))
  as_aux_lemma=>
   refine bodyPost_ret (res_own (Blk.c17 HZ5.out) rfl) rfl ⟨rfl,Ext.c17 HE5.out (by omega)⟩
theorem mown_R (xd st n oid ver:Int) (nm:ByteArray) (id:Int) (cols:List Col) (ca:Option Addr) (cc:Nat) (kd ao av old:Int) (lb la:List K) (rs:List Rf) (ba aa ra:Option Addr) (bc ac rc:Nat) (fl:Int) (w:World):
 Calls Tryz.prog 73 #[.agg #[.int .u8 82, .int .u32 xd, .int .u64 st, .int .u32 n, .int .u32 oid, .int .u32 ver, .string nm, .int .u8 id, .slice ca cols.length cc, .int .u8 kd, .int .u32 ao, .int .u32 av, .int .u8 old, .slice ba lb.length bc, .slice aa la.length ac, .slice ra rs.length rc, .int .u8 fl]] w fun e w' =>e= .returned (.agg #[.int .u8 82, .int .u32 0, .int .u64 0, .int .u32 0, .int .u32 oid, .int .u32 ver, .string nm, .int .u8 id, .slice ca cols.length cc, .int .u8 0, .int .u32 0, .int .u32 0, .int .u8 0, .slice none 0 0, .slice none 0 0, .slice none 0 0, .int .u8 0])∧Ext w w' :=by
 have HX:=Hm (Blk.new w #[.int .u8 82, .int .u32 xd, .int .u64 st, .int .u32 n, .int .u32 oid, .int .u32 ver, .string nm, .int .u8 id, .slice ca cols.length cc, .int .u8 kd, .int .u32 ao, .int .u32 av, .int .u8 old, .slice ba lb.length bc, .slice aa la.length ac, .slice ra rs.length rc, .int .u8 fl] 79)
 have HZ:=Hm (Blk.new' (w:=w.alloc (.cells #[.int .u8 82, .int .u32 xd, .int .u64 st, .int .u32 n, .int .u32 oid, .int .u32 ver, .string nm, .int .u8 id, .slice ca cols.length cc, .int .u8 kd, .int .u32 ao, .int .u32 av, .int .u8 old, .slice ba lb.length bc, .slice aa la.length ac, .slice ra rs.length rc, .int .u8 fl] 79)) (b:=w.heap.size+1) #[.int .u8 0, .int .u32 0, .int .u64 0, .int .u32 0, .int .u32 0, .int .u32 0, .string ⟨#[]⟩, .int .u8 0, .slice none 0 0, .int .u8 0, .int .u32 0, .int .u32 0, .int .u8 0, .slice none 0 0, .slice none 0 0, .slice none 0 0, .int .u8 0] 79 (by simp))
 have HK:=Hm (Blk.new' (w:=(w.alloc (.cells #[.int .u8 82, .int .u32 xd, .int .u64 st, .int .u32 n, .int .u32 oid, .int .u32 ver, .string nm, .int .u8 id, .slice ca cols.length cc, .int .u8 kd, .int .u32 ao, .int .u32 av, .int .u8 old, .slice ba lb.length bc, .slice aa la.length ac, .slice ra rs.length rc, .int .u8 fl] 79)).alloc (.cells #[.int .u8 0, .int .u32 0, .int .u64 0, .int .u32 0, .int .u32 0, .int .u32 0, .string ⟨#[]⟩, .int .u8 0, .slice none 0 0, .int .u8 0, .int .u32 0, .int .u32 0, .int .u8 0, .slice none 0 0, .slice none 0 0, .slice none 0 0, .int .u8 0] 79)) (b:=w.heap.size+1+1) #[.int .u8 82, .int .u32 0, .int .u64 0, .int .u32 0, .int .u32 0, .int .u32 0, .string ⟨#[]⟩, .int .u8 0, .slice none 0 0, .int .u8 0, .int .u32 0, .int .u32 0, .int .u8 0, .slice none 0 0, .slice none 0 0, .slice none 0 0, .int .u8 0] 79 (by simp))
 have HXZ:=Hm (HX.out.alloc (.cells #[.int .u8 0, .int .u32 0, .int .u64 0, .int .u32 0, .int .u32 0, .int .u32 0, .string ⟨#[]⟩, .int .u8 0, .slice none 0 0, .int .u8 0, .int .u32 0, .int .u32 0, .int .u8 0, .slice none 0 0, .slice none 0 0, .slice none 0 0, .int .u8 0] 79))
 obtain ⟨w3,hw3⟩:∃W,W=((w.alloc (.cells #[.int .u8 82, .int .u32 xd, .int .u64 st, .int .u32 n, .int .u32 oid, .int .u32 ver, .string nm, .int .u8 id, .slice ca cols.length cc, .int .u8 kd, .int .u32 ao, .int .u32 av, .int .u8 old, .slice ba lb.length bc, .slice aa la.length ac, .slice ra rs.length rc, .int .u8 fl] 79)).alloc (.cells #[.int .u8 0, .int .u32 0, .int .u64 0, .int .u32 0, .int .u32 0, .int .u32 0, .string ⟨#[]⟩, .int .u8 0, .slice none 0 0, .int .u8 0, .int .u32 0, .int .u32 0, .int .u8 0, .slice none 0 0, .slice none 0 0, .slice none 0 0, .int .u8 0] 79)).alloc (.cells #[.int .u8 82, .int .u32 0, .int .u64 0, .int .u32 0, .int .u32 0, .int .u32 0, .string ⟨#[]⟩, .int .u8 0, .slice none 0 0, .int .u8 0, .int .u32 0, .int .u32 0, .int .u8 0, .slice none 0 0, .slice none 0 0, .slice none 0 0, .int .u8 0] 79):=⟨_,rfl⟩
 have HE3:=Hm (show Ext w w3 by rw [hw3];exact (((Ext.refl w).alloc _).alloc _).alloc _)
 have HX3:=Hm (show Blk w3 w.heap.size #[.int .u8 82, .int .u32 xd, .int .u64 st, .int .u32 n, .int .u32 oid, .int .u32 ver, .string nm, .int .u8 id, .slice ca cols.length cc, .int .u8 kd, .int .u32 ao, .int .u32 av, .int .u8 old, .slice ba lb.length bc, .slice aa la.length ac, .slice ra rs.length rc, .int .u8 fl] 79 by rw [hw3];exact HXZ.out.alloc _)
 have HZ3:=Hm (show Blk w3 (w.heap.size+1) #[.int .u8 0, .int .u32 0, .int .u64 0, .int .u32 0, .int .u32 0, .int .u32 0, .string ⟨#[]⟩, .int .u8 0, .slice none 0 0, .int .u8 0, .int .u32 0, .int .u32 0, .int .u8 0, .slice none 0 0, .slice none 0 0, .slice none 0 0, .int .u8 0] 79 by rw [hw3];exact HZ.out.alloc _)
 have HK3:=Hm (show Blk w3 (w.heap.size+1+1) #[.int .u8 82, .int .u32 0, .int .u64 0, .int .u32 0, .int .u32 0, .int .u32 0, .string ⟨#[]⟩, .int .u8 0, .slice none 0 0, .int .u8 0, .int .u32 0, .int .u32 0, .int .u8 0, .slice none 0 0, .slice none 0 0, .slice none 0 0, .int .u8 0] 79 by rw [hw3];exact HK.out)
 have HW3:=Hm hw3
 clear HX HZ HK HXZ hw3
 go_enter Tryz.func73,Tryz.ntmps73
 go_upto_region 9 with (fail)
 rw [←HW3.out]
 have gX:=HX3.out.cell
 have zX:=HX3.out.lt
 have gK:=HK3.out.cell
 have gKf:=HK3.out.frozen
 have zK:=HK3.out.lt
 clear HW3
 go_upto_region 10 with (fail)
 clear gX zX gK gKf zK
 have HK5:=Hm (((((HK3.out.set 4 (.int .u32 oid)).set 5 (.int .u32 ver)).set 6 (.string nm)).set 7 (.int .u8 id)).set 8 (.slice ca cols.length cc))
 simp only [List.setIfInBounds_toArray,List.set_cons_zero,List.set_cons_succ] at HK5
 have HS5:Hid (Kp (fun x=>x=w.heap.size+1+1) w3 (((((w3.setCell ⟨w.heap.size+1+1,4,none⟩ (.int .u32 oid)).setCell ⟨w.heap.size+1+1,5,none⟩ (.int .u32 ver)).setCell ⟨w.heap.size+1+1,6,none⟩ (.string nm)).setCell ⟨w.heap.size+1+1,7,none⟩ (.int .u8 id)).setCell ⟨w.heap.size+1+1,8,none⟩ (.slice ca cols.length cc))):=Hm (by
  iterate 5 refine Kp.trans ?_ (Kp.set (S:=fun x=>x=w.heap.size+1+1) _ _ rfl) (fun _ hx _=>hx)
  exact Kp.refl)
 have HZ5:=Hm (HZ3.out.kp HS5.out (show ¬ w.heap.size+1=w.heap.size+1+1 by omega))
 have HE5:=Hm (Kp.ext HE3.out (fun x hx _=>by have hx:x=w.heap.size+1+1:=hx;omega) HS5.out)
 obtain ⟨w5,hw5⟩:∃W,W=(((((w3.setCell ⟨w.heap.size+1+1,4,none⟩ (.int .u32 oid)).setCell ⟨w.heap.size+1+1,5,none⟩ (.int .u32 ver)).setCell ⟨w.heap.size+1+1,6,none⟩ (.string nm)).setCell ⟨w.heap.size+1+1,7,none⟩ (.int .u8 id)).setCell ⟨w.heap.size+1+1,8,none⟩ (.slice ca cols.length cc)):=⟨_,rfl⟩
 rw [←hw5] at HK5 HZ5 HE5⊢
 clear hw5 HS5 HK3 HZ3 HX3 HE3
 have HS17:=Hm (show (Instr.storeAt 79 (.pointer (some ⟨w.heap.size+1,0,none⟩)) (.agg #[.int .u8 82, .int .u32 0, .int .u64 0, .int .u32 0, .int .u32 oid, .int .u32 ver, .string nm, .int .u8 id, .slice ca cols.length cc, .int .u8 0, .int .u32 0, .int .u32 0, .int .u8 0, .slice none 0 0, .slice none 0 0, .slice none 0 0, .int .u8 0])).run Tryz.prog w5= .ok () _ from store17 HZ5.out)
 as_aux_lemma=>
  go_wp2_with (first
   |(refine wpList_load_to rfl 79 (.tmp 3) rfl _ _ ?e1 (load17 HK5.out) ?_;(case e1=>go_simp))
   |(refine wpList_store_to rfl 79 (.tmp 2) (.tmp 33) rfl _ _ ?e1 ?e2 HS17.out ?_;(case e1=>go_simp);(case e2=>go_simp)))
  as_aux_lemma=>
   refine bodyPost_ret (res_own (Blk.c17 HZ5.out) rfl) rfl ⟨rfl,Ext.c17 HE5.out (by omega)⟩
end Go.Proofs.YtgmphpccpfaapaaGreatDoor
