/-
The program's own of a message: one kind.
-/
import Derived.Lib.ItoaNum
import Derived.Lib.Join
import Derived.Shelf.LaysM
import Derived.Shelf.Strconv.Itoa3
import Derived.Shelf.Small.Strs
import Derived.Lib.LaidTab
import Derived.Maps.RangeWalk
import Derived.Test.YtgmphpccpfaapaaGreatDoorP20
import Derived.Test.YtgmphpccpfaapaaGreatDoorP8
import Derived.Test.YtgmphpccpfaapaaGreatDoorP1
import Derived.Test.YtgmphpccpfaapaaGreatDoorP18
import Derived.Test.YtgmphpccpfaapaaGreatDoorP7
set_option maxRecDepth 100000
set_option maxHeartbeats 16000000
namespace Go.Proofs.YtgmphpccpfaapaaGreatDoor
open Go.RowKit
theorem mown_E (k xd st n oid ver:Int) (nm:ByteArray) (id:Int) (cols:List Col) (ca:Option Addr) (cc:Nat) (kd ao av old:Int) (lb la:List K) (rs:List Rf) (ba aa ra:Option Addr) (bc ac rc:Nat) (fl:Int) (w:World) (h1:k≠66) (h2:k≠67) (h3:k≠82):
 Calls Tryz.prog 73 #[.agg #[.int .u8 k, .int .u32 xd, .int .u64 st, .int .u32 n, .int .u32 oid, .int .u32 ver, .string nm, .int .u8 id, .slice ca cols.length cc, .int .u8 kd, .int .u32 ao, .int .u32 av, .int .u8 old, .slice ba lb.length bc, .slice aa la.length ac, .slice ra rs.length rc, .int .u8 fl]] w fun e w' =>e= .returned (.agg #[.int .u8 k, .int .u32 0, .int .u64 0, .int .u32 0, .int .u32 0, .int .u32 0, .string ⟨#[]⟩, .int .u8 0, .slice none 0 0, .int .u8 kd, .int .u32 ao, .int .u32 av, .int .u8 old, .slice ba lb.length bc, .slice aa la.length ac, .slice ra rs.length rc, .int .u8 fl])∧Ext w w' :=by
 have k1:(k==66)=false:=by simpa using h1
 have k2:(k==67)=false:=by simpa using h2
 have k3:(k==82)=false:=by simpa using h3
 clear h1 h2 h3
 have HX:=Hm (Blk.new w #[.int .u8 k, .int .u32 xd, .int .u64 st, .int .u32 n, .int .u32 oid, .int .u32 ver, .string nm, .int .u8 id, .slice ca cols.length cc, .int .u8 kd, .int .u32 ao, .int .u32 av, .int .u8 old, .slice ba lb.length bc, .slice aa la.length ac, .slice ra rs.length rc, .int .u8 fl] 79)
 have HZ:=Hm (Blk.new' (w:=w.alloc (.cells #[.int .u8 k, .int .u32 xd, .int .u64 st, .int .u32 n, .int .u32 oid, .int .u32 ver, .string nm, .int .u8 id, .slice ca cols.length cc, .int .u8 kd, .int .u32 ao, .int .u32 av, .int .u8 old, .slice ba lb.length bc, .slice aa la.length ac, .slice ra rs.length rc, .int .u8 fl] 79)) (b:=w.heap.size+1) #[.int .u8 0, .int .u32 0, .int .u64 0, .int .u32 0, .int .u32 0, .int .u32 0, .string ⟨#[]⟩, .int .u8 0, .slice none 0 0, .int .u8 0, .int .u32 0, .int .u32 0, .int .u8 0, .slice none 0 0, .slice none 0 0, .slice none 0 0, .int .u8 0] 79 (by simp))
 have HK:=Hm (Blk.new' (w:=(w.alloc (.cells #[.int .u8 k, .int .u32 xd, .int .u64 st, .int .u32 n, .int .u32 oid, .int .u32 ver, .string nm, .int .u8 id, .slice ca cols.length cc, .int .u8 kd, .int .u32 ao, .int .u32 av, .int .u8 old, .slice ba lb.length bc, .slice aa la.length ac, .slice ra rs.length rc, .int .u8 fl] 79)).alloc (.cells #[.int .u8 0, .int .u32 0, .int .u64 0, .int .u32 0, .int .u32 0, .int .u32 0, .string ⟨#[]⟩, .int .u8 0, .slice none 0 0, .int .u8 0, .int .u32 0, .int .u32 0, .int .u8 0, .slice none 0 0, .slice none 0 0, .slice none 0 0, .int .u8 0] 79)) (b:=w.heap.size+1+1) #[.int .u8 k, .int .u32 0, .int .u64 0, .int .u32 0, .int .u32 0, .int .u32 0, .string ⟨#[]⟩, .int .u8 0, .slice none 0 0, .int .u8 0, .int .u32 0, .int .u32 0, .int .u8 0, .slice none 0 0, .slice none 0 0, .slice none 0 0, .int .u8 0] 79 (by simp))
 have HXZ:=Hm (HX.out.alloc (.cells #[.int .u8 0, .int .u32 0, .int .u64 0, .int .u32 0, .int .u32 0, .int .u32 0, .string ⟨#[]⟩, .int .u8 0, .slice none 0 0, .int .u8 0, .int .u32 0, .int .u32 0, .int .u8 0, .slice none 0 0, .slice none 0 0, .slice none 0 0, .int .u8 0] 79))
 obtain ⟨w3,hw3⟩:∃W,W=((w.alloc (.cells #[.int .u8 k, .int .u32 xd, .int .u64 st, .int .u32 n, .int .u32 oid, .int .u32 ver, .string nm, .int .u8 id, .slice ca cols.length cc, .int .u8 kd, .int .u32 ao, .int .u32 av, .int .u8 old, .slice ba lb.length bc, .slice aa la.length ac, .slice ra rs.length rc, .int .u8 fl] 79)).alloc (.cells #[.int .u8 0, .int .u32 0, .int .u64 0, .int .u32 0, .int .u32 0, .int .u32 0, .string ⟨#[]⟩, .int .u8 0, .slice none 0 0, .int .u8 0, .int .u32 0, .int .u32 0, .int .u8 0, .slice none 0 0, .slice none 0 0, .slice none 0 0, .int .u8 0] 79)).alloc (.cells #[.int .u8 k, .int .u32 0, .int .u64 0, .int .u32 0, .int .u32 0, .int .u32 0, .string ⟨#[]⟩, .int .u8 0, .slice none 0 0, .int .u8 0, .int .u32 0, .int .u32 0, .int .u8 0, .slice none 0 0, .slice none 0 0, .slice none 0 0, .int .u8 0] 79):=⟨_,rfl⟩
 have HE3:=Hm (show Ext w w3 by rw [hw3];exact (((Ext.refl w).alloc _).alloc _).alloc _)
 have HX3:=Hm (show Blk w3 w.heap.size #[.int .u8 k, .int .u32 xd, .int .u64 st, .int .u32 n, .int .u32 oid, .int .u32 ver, .string nm, .int .u8 id, .slice ca cols.length cc, .int .u8 kd, .int .u32 ao, .int .u32 av, .int .u8 old, .slice ba lb.length bc, .slice aa la.length ac, .slice ra rs.length rc, .int .u8 fl] 79 by rw [hw3];exact HXZ.out.alloc _)
 have HZ3:=Hm (show Blk w3 (w.heap.size+1) #[.int .u8 0, .int .u32 0, .int .u64 0, .int .u32 0, .int .u32 0, .int .u32 0, .string ⟨#[]⟩, .int .u8 0, .slice none 0 0, .int .u8 0, .int .u32 0, .int .u32 0, .int .u8 0, .slice none 0 0, .slice none 0 0, .slice none 0 0, .int .u8 0] 79 by rw [hw3];exact HZ.out.alloc _)
 have HK3:=Hm (show Blk w3 (w.heap.size+1+1) #[.int .u8 k, .int .u32 0, .int .u64 0, .int .u32 0, .int .u32 0, .int .u32 0, .string ⟨#[]⟩, .int .u8 0, .slice none 0 0, .int .u8 0, .int .u32 0, .int .u32 0, .int .u8 0, .slice none 0 0, .slice none 0 0, .slice none 0 0, .int .u8 0] 79 by rw [hw3];exact HK.out)
 have HW3:=Hm hw3
 clear HX HZ HK HXZ hw3
 go_enter Tryz.func73,Tryz.ntmps73
 go_upto_region 3 with (fail)
 rw [←HW3.out]
 have gX:=HX3.out.cell
 have zX:=HX3.out.lt
 have gK:=HK3.out.cell
 have gKf:=HK3.out.frozen
 have zK:=HK3.out.lt
 clear HW3
 go_upto_region 10 with (fail)
 clear gX zX gK gKf zK
 have HK5:=Hm ((((((((HK3.out.set 9 (.int .u8 kd)).set 10 (.int .u32 ao)).set 11 (.int .u32 av)).set 12 (.int .u8 old)).set 13 (.slice ba lb.length bc)).set 14 (.slice aa la.length ac)).set 15 (.slice ra rs.length rc)).set 16 (.int .u8 fl))
 simp only [List.setIfInBounds_toArray,List.set_cons_zero,List.set_cons_succ] at HK5
 have HS5:Hid (Kp (fun x=>x=w.heap.size+1+1) w3 ((((((((w3.setCell ⟨w.heap.size+1+1,9,none⟩ (.int .u8 kd)).setCell ⟨w.heap.size+1+1,10,none⟩ (.int .u32 ao)).setCell ⟨w.heap.size+1+1,11,none⟩ (.int .u32 av)).setCell ⟨w.heap.size+1+1,12,none⟩ (.int .u8 old)).setCell ⟨w.heap.size+1+1,13,none⟩ (.slice ba lb.length bc)).setCell ⟨w.heap.size+1+1,14,none⟩ (.slice aa la.length ac)).setCell ⟨w.heap.size+1+1,15,none⟩ (.slice ra rs.length rc)).setCell ⟨w.heap.size+1+1,16,none⟩ (.int .u8 fl))):=Hm (by
  iterate 8 refine Kp.trans ?_ (Kp.set (S:=fun x=>x=w.heap.size+1+1) _ _ rfl) (fun _ hx _=>hx)
  exact Kp.refl)
 have HZ5:=Hm (HZ3.out.kp HS5.out (show ¬ w.heap.size+1=w.heap.size+1+1 by omega))
 have HE5:=Hm (Kp.ext HE3.out (fun x hx _=>by have hx:x=w.heap.size+1+1:=hx;omega) HS5.out)
 obtain ⟨w5,hw5⟩:∃W,W=((((((((w3.setCell ⟨w.heap.size+1+1,9,none⟩ (.int .u8 kd)).setCell ⟨w.heap.size+1+1,10,none⟩ (.int .u32 ao)).setCell ⟨w.heap.size+1+1,11,none⟩ (.int .u32 av)).setCell ⟨w.heap.size+1+1,12,none⟩ (.int .u8 old)).setCell ⟨w.heap.size+1+1,13,none⟩ (.slice ba lb.length bc)).setCell ⟨w.heap.size+1+1,14,none⟩ (.slice aa la.length ac)).setCell ⟨w.heap.size+1+1,15,none⟩ (.slice ra rs.length rc)).setCell ⟨w.heap.size+1+1,16,none⟩ (.int .u8 fl)):=⟨_,rfl⟩
 rw [←hw5] at HK5 HZ5 HE5⊢
 clear hw5 HS5 HK3 HZ3 HX3 HE3
 have HS17:=Hm (show (Instr.storeAt 79 (.pointer (some ⟨w.heap.size+1,0,none⟩)) (.agg #[.int .u8 k, .int .u32 0, .int .u64 0, .int .u32 0, .int .u32 0, .int .u32 0, .string ⟨#[]⟩, .int .u8 0, .slice none 0 0, .int .u8 kd, .int .u32 ao, .int .u32 av, .int .u8 old, .slice ba lb.length bc, .slice aa la.length ac, .slice ra rs.length rc, .int .u8 fl])).run Tryz.prog w5= .ok () _ from store17 HZ5.out)
 as_aux_lemma=>
  go_wp2_with (first
   |(refine wpList_load_to rfl 79 (.tmp 3) rfl _ _ ?e1 (load17 HK5.out) ?_;(case e1=>go_simp))
   |(refine wpList_store_to rfl 79 (.tmp 2) (.tmp 33) rfl _ _ ?e1 ?e2 HS17.out ?_;(case e1=>go_simp);(case e2=>go_simp)))
  as_aux_lemma=>
   refine bodyPost_ret (res_own (Blk.c17 HZ5.out) rfl) rfl ⟨rfl,Ext.c17 HE5.out (by omega)⟩
theorem mown_any (p:ML) (w:World):Calls Tryz.prog 73 #[p.agg] w fun e w' =>e= .returned p.own.agg∧Ext w w' :=by
 obtain ⟨k,x,st,n,⟨⟨o,v,nm,id,cols⟩,a,c⟩,⟨⟨kd,ao,av,old,b,aa,rs,fl⟩,ba,bc,aad,ac,ra,rc⟩⟩:=p
 unfold ML.own
 dsimp only
 by_cases h1:k=66
 ·rw [if_pos h1]
  subst h1
  exact mown_B x st n o v nm id cols a c kd ao av old b aa rs ba aad ra bc ac rc fl w
 ·rw [if_neg h1]
  by_cases h2:k=67
  ·rw [if_pos h2]
   subst h2
   exact mown_C x st n o v nm id cols a c kd ao av old b aa rs ba aad ra bc ac rc fl w
  ·rw [if_neg h2]
   by_cases h3:k=82
   ·rw [if_pos h3]
    subst h3
    exact mown_R x st n o v nm id cols a c kd ao av old b aa rs ba aad ra bc ac rc fl w
   ·rw [if_neg h3]
    exact mown_E k x st n o v nm id cols a c kd ao av old b aa rs ba aad ra bc ac rc fl w h1 h2 h3
theorem malike_any (p q:ML) (w:World) (hp:p.at 5 K.pc w) (hq:q.at 5 K.pc w) (hlen:p.r.r.cols.length≤1000) (h1:p.e.e.small) (h2:q.e.e.small):
 Calls Tryz.prog 72 #[p.agg,q.agg] w fun e w' =>e= .returned (.bool (msgB p.m q.m))∧Ext w w' :=by
 have HS:=Hm (fun W (h:Ext w W)=>same8_any p.r q.r W (hp.1.ext h) (hq.1.ext h) hlen)
 have HE:=Hm (fun W (h:Ext w W)=>ealike_any p.e q.e W (hp.2.ext h) (hq.2.ext h) h1 h2)
 clear hp hq hlen h1 h2
 obtain ⟨k1,x1,st1,n1,⟨⟨o1,v1,nm1,id1,cols1⟩,a1,c1⟩,⟨⟨kd1,ao1,av1,old1,b1,aa1,rs1,fl1⟩,ba1,bc1,aad1,ac1,ra1,rc1⟩⟩:=p
 obtain ⟨k2,x2,st2,n2,⟨⟨o2,v2,nm2,id2,cols2⟩,a2,c2⟩,⟨⟨kd2,ao2,av2,old2,b2,aa2,rs2,fl2⟩,ba2,bc2,aad2,ac2,ra2,rc2⟩⟩:=q
 unfold ML.agg ML.arr ML.m
 unfold RR.agg at HS
 unfold EL.agg at HE
 dsimp only at HS HE⊢
 by_cases q1:k1=k2
 case neg=>
  have HR:=Hm (show msgB (⟨k1,x1,st1,n1,(⟨o1,v1,nm1,id1,cols1⟩:Rl),(⟨kd1,ao1,av1,old1,b1,aa1,rs1,fl1⟩:Ev)⟩:Msg) (⟨k2,x2,st2,n2,(⟨o2,v2,nm2,id2,cols2⟩:Rl),(⟨kd2,ao2,av2,old2,b2,aa2,rs2,fl2⟩:Ev)⟩:Msg)=false from by
   unfold msgB
   rw [decide_eq_false (fun h=>q1 h.1),Bool.false_and,Bool.false_and])
  have q' :(k1==k2)=false:=by simpa using q1
  clear q1 HS HE
  go_enter Tryz.func72,Tryz.ntmps72
  go_wp2
  go_ret
  exact ⟨ret_bool HR.out.symm,by exact eX⟩
 subst q1
 by_cases q2:x1=x2
 case neg=>
  have HR:=Hm (show msgB (⟨k1,x1,st1,n1,(⟨o1,v1,nm1,id1,cols1⟩:Rl),(⟨kd1,ao1,av1,old1,b1,aa1,rs1,fl1⟩:Ev)⟩:Msg) (⟨k1,x2,st2,n2,(⟨o2,v2,nm2,id2,cols2⟩:Rl),(⟨kd2,ao2,av2,old2,b2,aa2,rs2,fl2⟩:Ev)⟩:Msg)=false from by
   unfold msgB
   rw [decide_eq_false (fun h=>q2 h.2.1),Bool.false_and,Bool.false_and])
  have q' :(x1==x2)=false:=by simpa using q2
  clear q2 HS HE
  go_enter Tryz.func72,Tryz.ntmps72
  go_wp2
  go_ret
  exact ⟨ret_bool HR.out.symm,by exact eX⟩
 subst q2
 by_cases q3:st1=st2
 case neg=>
  have HR:=Hm (show msgB (⟨k1,x1,st1,n1,(⟨o1,v1,nm1,id1,cols1⟩:Rl),(⟨kd1,ao1,av1,old1,b1,aa1,rs1,fl1⟩:Ev)⟩:Msg) (⟨k1,x1,st2,n2,(⟨o2,v2,nm2,id2,cols2⟩:Rl),(⟨kd2,ao2,av2,old2,b2,aa2,rs2,fl2⟩:Ev)⟩:Msg)=false from by
   unfold msgB
   rw [decide_eq_false (fun h=>q3 h.2.2.1),Bool.false_and,Bool.false_and])
  have q' :(st1==st2)=false:=by simpa using q3
  clear q3 HS HE
  go_enter Tryz.func72,Tryz.ntmps72
  go_wp2
  go_ret
  exact ⟨ret_bool HR.out.symm,by exact eX⟩
 subst q3
 by_cases q4:n1=n2
 case neg=>
  have HR:=Hm (show msgB (⟨k1,x1,st1,n1,(⟨o1,v1,nm1,id1,cols1⟩:Rl),(⟨kd1,ao1,av1,old1,b1,aa1,rs1,fl1⟩:Ev)⟩:Msg) (⟨k1,x1,st1,n2,(⟨o2,v2,nm2,id2,cols2⟩:Rl),(⟨kd2,ao2,av2,old2,b2,aa2,rs2,fl2⟩:Ev)⟩:Msg)=false from by
   unfold msgB
   rw [decide_eq_false (fun h=>q4 h.2.2.2),Bool.false_and,Bool.false_and])
  have q' :(n1==n2)=false:=by simpa using q4
  clear q4 HS HE
  go_enter Tryz.func72,Tryz.ntmps72
  go_wp2
  go_ret
  exact ⟨ret_bool HR.out.symm,by exact eX⟩
 subst q4
 have HM:=Hm (show msgB (⟨k1,x1,st1,n1,(⟨o1,v1,nm1,id1,cols1⟩:Rl),(⟨kd1,ao1,av1,old1,b1,aa1,rs1,fl1⟩:Ev)⟩:Msg) (⟨k1,x1,st1,n1,(⟨o2,v2,nm2,id2,cols2⟩:Rl),(⟨kd2,ao2,av2,old2,b2,aa2,rs2,fl2⟩:Ev)⟩:Msg)=(rlB (⟨o1,v1,nm1,id1,cols1⟩:Rl) (⟨o2,v2,nm2,id2,cols2⟩:Rl)&&evB (⟨kd1,ao1,av1,old1,b1,aa1,rs1,fl1⟩:Ev) (⟨kd2,ao2,av2,old2,b2,aa2,rs2,fl2⟩:Ev)) from by
  unfold msgB
  rw [decide_eq_true (And.intro rfl (And.intro rfl (And.intro rfl rfl))),Bool.true_and])
 generalize rlB (⟨o1,v1,nm1,id1,cols1⟩:Rl) (⟨o2,v2,nm2,id2,cols2⟩:Rl)=B1 at HS HM
 generalize evB (⟨kd1,ao1,av1,old1,b1,aa1,rs1,fl1⟩:Ev) (⟨kd2,ao2,av2,old2,b2,aa2,rs2,fl2⟩:Ev)=B2 at HE HM
 cases B1 with
 |false=>
  rw [Bool.false_and] at HM
  clear HE
  go_enter Tryz.func72,Tryz.ntmps72
  go_wp2_with (go_at_call 101;refine (HS.out _ (by exact eX)).mono ?_;rintro e w2 ⟨rfl,hb2⟩)
  go_ret
  exact ⟨ret_bool HM.out.symm,by exact eX⟩
 |true=>
  rw [Bool.true_and] at HM
  go_enter Tryz.func72,Tryz.ntmps72
  go_wp2_with (first
   |(go_at_call 101;(with_reducible refine (HS.out _ (by exact eX)).mono ?_);rintro e w2 ⟨rfl,hb2⟩;have hE_w2:Ext ((w.alloc (.cells #[.int .u8 k1, .int .u32 x1, .int .u64 st1, .int .u32 n1, .int .u32 o1, .int .u32 v1, .string nm1, .int .u8 id1, .slice a1 cols1.length c1, .int .u8 kd1, .int .u32 ao1, .int .u32 av1, .int .u8 old1, .slice ba1 b1.length bc1, .slice aad1 aa1.length ac1, .slice ra1 rs1.length rc1, .int .u8 fl1] 79)).alloc (.cells #[.int .u8 k1, .int .u32 x1, .int .u64 st1, .int .u32 n1, .int .u32 o2, .int .u32 v2, .string nm2, .int .u8 id2, .slice a2 cols2.length c2, .int .u8 kd2, .int .u32 ao2, .int .u32 av2, .int .u8 old2, .slice ba2 b2.length bc2, .slice aad2 aa2.length ac2, .slice ra2 rs2.length rc2, .int .u8 fl2] 79)) w2:=(by exact eX);obtain ⟨hc_w2,hf_w2⟩:=hE_w2.cells;have hz_w2:=hE_w2.size)
   |(go_at_call 102;refine (HE.out _ (by exact eX)).mono ?_;rintro e w3 ⟨rfl,hb3⟩))
  go_ret
  exact ⟨ret_bool HM.out.symm,by exact eX⟩
def txt (l:List UInt8):ByteArray:=⟨l.toArray⟩
theorem txt_app (a b:List UInt8):txt a++txt b=txt (a++b):=by
 apply ByteArray.ext
 simp [txt]
theorem dec_lt {n:Nat} (h:n<10):Lib.decDigits n= [UInt8.ofNat (48+n)]:=by
 unfold Lib.decDigits;rw [dif_pos h]
theorem dec_ge {n:Nat} (h: ¬ n<10):Lib.decDigits n=Lib.decDigits (n / 10)++ [UInt8.ofNat (48+n%10)]:=by
 conv=>lhs;unfold Lib.decDigits
 rw [dif_neg h]
theorem dec_len:∀(d n:Nat),n<10 ^ d→(Lib.decDigits n).length≤d+1:=by
 intro d
 induction d with
 |zero=>intro n h;rw [dec_lt (by simpa using Nat.lt_of_lt_of_le h (by decide:10 ^ 0≤10))];simp
 |succ d ih=>
  intro n h
  by_cases h0:n<10
  ·rw [dec_lt h0];simp
  ·rw [dec_ge h0,List.length_append]
   have h1:n / 10<10 ^ d:=by rw [Nat.pow_succ] at h;omega
   have:=ih _ h1
   simp only [List.length_singleton];omega
theorem dec_len64 {n:Nat} (h:n<18446744073709551616):(Lib.decDigits n).length≤21:=by
 have e:(10:Nat) ^ 20=100000000000000000000:=by decide
 exact dec_len 20 n (by omega)
theorem itoa_len {v:Int} (h0: -9223372036854775808≤v) (h1:v≤9223372036854775807):(Lib.itoa v).length≤22:=by
 have e:(10:Nat) ^ 20=100000000000000000000:=by decide
 unfold Lib.itoa
 split
 ·have:=dec_len 20 v.natAbs (by omega)
  simp only [List.length_cons];omega
 ·have:=dec_len 20 v.toNat (by omega)
  omega
open Go.Shelf
def Tryz.laysM246_ren:Go.Shelf.Ren:=⟨fun|246=>172|283=>183|284=>184|285=>185|286=>186|129=>189|317=>188|318=>190|319=>191|320=>192|337=>195|338=>196|n=>n,fun|2=>2|3=>3|9=>9|4=>4|171=>265|0=>0|53=>39|37=>28|5=>5|173=>268|212=>273|51=>38|20=>20|213=>274|46=>210|232=>285|233=>286|n=>n,fun|17=>5|18=>7|19=>8|n=>n⟩
theorem Tryz.laysM246:Go.Proofs.LaysM.n246 Tryz.prog Tryz.laysM246_ren:= {
 mixed:=by kernel_rfl
 f129:=Tryz.func189.trans (congrArg some (by kernel_rfl))
 f246:=Tryz.func172.trans (congrArg some (by kernel_rfl))
 f283:=Tryz.func183.trans (congrArg some (by kernel_rfl))
 f284:=Tryz.func184.trans (congrArg some (by kernel_rfl))
 f285:=Tryz.func185.trans (congrArg some (by kernel_rfl))
 f286:=Tryz.func186.trans (congrArg some (by kernel_rfl))
 f317:=Tryz.func188.trans (congrArg some (by kernel_rfl))
 f318:=Tryz.func190.trans (congrArg some (by kernel_rfl))
 f319:=Tryz.func191.trans (congrArg some (by kernel_rfl))
 f320:=Tryz.func192.trans (congrArg some (by kernel_rfl))
 f337:=Tryz.func195.trans (congrArg some (by kernel_rfl))
 f338:=Tryz.func196.trans (congrArg some (by kernel_rfl))
 t0:=Tryz.underlying0
 a0:=Tryz.isAgg0
 z0:=Tryz.sizeOf0
 v0:=Tryz.zeroValue0
 t2:=Tryz.underlying2
 a2:=Tryz.isAgg2
 z2:=Tryz.sizeOf2
 v2:=Tryz.zeroValue2
 t3:=Tryz.underlying3
 a3:=Tryz.isAgg3
 z3:=Tryz.sizeOf3
 v3:=Tryz.zeroValue3
 t4:=Tryz.underlying4
 a4:=Tryz.isAgg4
 z4:=Tryz.sizeOf4
 v4:=Tryz.zeroValue4
 t5:=Tryz.underlying5
 a5:=Tryz.isAgg5
 z5:=Tryz.sizeOf5
 v5:=Tryz.zeroValue5
 t9:=Tryz.underlying9
 a9:=Tryz.isAgg9
 z9:=Tryz.sizeOf9
 v9:=Tryz.zeroValue9
 t20:=Tryz.underlying20
 a20:=Tryz.isAgg20
 z20:=Tryz.sizeOf20
 v20:=Tryz.zeroValue20
 t37:=Tryz.underlying28
 a37:=Tryz.isAgg28
 z37:=Tryz.sizeOf28
 v37:=Tryz.zeroValue28
 t46:=Tryz.underlying210
 a46:=Tryz.isAgg210
 z46:=Tryz.sizeOf210
 v46:=Tryz.zeroValue210
 t51:=Tryz.underlying38
 a51:=Tryz.isAgg38
 z51:=Tryz.sizeOf38
 v51:=Tryz.zeroValue38
 t53:=Tryz.underlying39
 a53:=Tryz.isAgg39
 z53:=Tryz.sizeOf39
 v53:=Tryz.zeroValue39
 t171:=Tryz.underlying265
 a171:=Tryz.isAgg265
 z171:=Tryz.sizeOf265
 v171:=Tryz.zeroValue265
 t173:=Tryz.underlying268
 a173:=Tryz.isAgg268
 z173:=Tryz.sizeOf268
 v173:=Tryz.zeroValue268
 t212:=Tryz.underlying273
 a212:=Tryz.isAgg273
 z212:=Tryz.sizeOf273
 v212:=Tryz.zeroValue273
 t213:=Tryz.underlying274
 a213:=Tryz.isAgg274
 z213:=Tryz.sizeOf274
 t232:=Tryz.underlying285
 a232:=Tryz.isAgg285
 z232:=Tryz.sizeOf285
 v232:=Tryz.zeroValue285
 t233:=Tryz.underlying286
 a233:=Tryz.isAgg286
 z233:=Tryz.sizeOf286
 v233:=Tryz.zeroValue286
 g17:=by kernel_rfl
 g18:=by kernel_rfl
 g19:=by kernel_rfl
 i0:=by kernel_rfl
 i2:=by kernel_rfl
 i3:=by kernel_rfl
 i4:=by kernel_rfl
 i5:=by kernel_rfl
 i9:=by kernel_rfl
 i20:=by kernel_rfl
 i37:=by kernel_rfl
 i46:=by kernel_rfl
 i51:=by kernel_rfl
 i53:=by kernel_rfl
 i171:=by kernel_rfl
 i173:=by kernel_rfl
 i212:=by kernel_rfl
 i232:=by kernel_rfl
 i233:=by kernel_rfl
 m17:=by kernel_rfl
 m18:=by kernel_rfl
 m19:=by kernel_rfl }
def Tryz.lays137_ren:Go.Shelf.Ren:=⟨fun|137=>100|217=>131|266=>152|n=>n,fun|9=>9|5=>5|3=>3|n=>n,fun|n=>n⟩
theorem Tryz.lays137:Go.Proofs.Lays.n137 Tryz.prog Tryz.lays137_ren:= {
 mixed:=by kernel_rfl
 f137:=Tryz.func100.trans (congrArg some (by kernel_rfl))
 f217:=Tryz.func131.trans (congrArg some (by kernel_rfl))
 f266:=Tryz.func152.trans (congrArg some (by kernel_rfl))
 t3:=Tryz.underlying3
 a3:=Tryz.isAgg3
 z3:=Tryz.sizeOf3
 v3:=Tryz.zeroValue3
 t5:=Tryz.underlying5
 a5:=Tryz.isAgg5
 z5:=Tryz.sizeOf5
 v5:=Tryz.zeroValue5
 t9:=Tryz.underlying9
 a9:=Tryz.isAgg9
 z9:=Tryz.sizeOf9
 v9:=Tryz.zeroValue9 }
end Go.Proofs.YtgmphpccpfaapaaGreatDoor
namespace Go.Proofs.YtgmphpccpfaapaaGreatDoor
open Go.RowKit Go.Maps Go.Shelf
def KD:DataW Unit:= .map [(.int .u8 68, .lit (.int .u8 6)),(.int .u8 73, .lit (.int .u8 4)),(.int .u8 84, .lit (.int .u8 7)),(.int .u8 85, .lit (.int .u8 5))]
theorem kd_at (k:Int):KD.atKey (.int .u8 k) (.lit (.int .u8 0))= .lit (.int .u8 (wkind k)):=by
 unfold KD wkind DataW.atKey
 by_cases h1:k=68
 ·subst h1;rfl
 by_cases h2:k=73
 ·subst h2;rfl
 by_cases h3:k=84
 ·subst h3;rfl
 by_cases h4:k=85
 ·subst h4;rfl
 have g1:(68:Int)≠k:=fun e=>h1 e.symm
 have g2:(73:Int)≠k:=fun e=>h2 e.symm
 have g3:(84:Int)≠k:=fun e=>h3 e.symm
 have g4:(85:Int)≠k:=fun e=>h4 e.symm
 simp [List.find?,Go.Lit.sameKey,h1,h2,h3,h4,g1,g2,g3,g4]
theorem lawU8:Keyed Tryz.prog 5:=int_keyed Tryz.underlying5
def Kin (W:World):Prop:=∃b,W.cell? ⟨2,0,none⟩=some (.map (some b))∧W.ownsMap Tryz.prog 5 (plainElem Tryz.prog 5) b 4 KD∧2<W.heap.size
theorem Kin.ext {W W' :World} (h:Kin W) (he:Ext W W'):Kin W' :=by
 obtain ⟨b,h1,h2,h3⟩:=h
 exact ⟨b,(he.cells.1 _ _ h3).trans h1,h2.kept (row:=none) ⟨he.os,he.tape,he.output,he.size,fun k hk _=>he.block k hk⟩ (by simp),Nat.lt_of_lt_of_le h3 he.size⟩
theorem wfU8 {k:Int} (h0:0≤k) (h1:k<256):(Go.Lit.int .u8 k).wf=true:=by
 simp [Go.Lit.wf,IntKind.min,IntKind.max,IntKind.signed,IntKind.bits]
 omega
theorem Kin.look {W:World} (h:Kin W) {k:Int} (h0:0≤k) (h1:k<256):∃b,(∀W',Ext W W'→W'.cell? ⟨2,0,none⟩=some (.map (some b))∧2<W'.heap.size)∧∀W',Ext W W'→(Instr.lookup 155 (.map (some b)) (.int .u8 k) false).run Tryz.prog W' = .ok (.int .u8 (wkind k)) W' :=by
 obtain ⟨b,g1,g2,g3⟩:=h
 refine ⟨b,fun W' he=>⟨(he.cells.1 _ _ g3).trans g1,Nat.lt_of_lt_of_le g3 he.size⟩,fun W' he=> ?_⟩
 have h2:=g2.kept (row:=none) ⟨he.os,he.tape,he.output,he.size,fun k hk _=>he.block k hk⟩ (by simp)
 obtain ⟨c,hr,hc, -⟩:=h2.lookup_int (key:= .int .u8 k) (kl:= .int .u8 k) lawU8 Tryz.underlying155 Tryz.underlying5 (Tryz.zeroValue5 W') (keyOf_int_mk Tryz.underlying5 (wfU8 h0 h1))
 rw [kd_at] at hc
 simp only [DataW.lit.injEq,Go.Lit.int.injEq,true_and] at hc
 rw [hr,hc]
theorem rkind_any (k:Int) (w:World):Calls Tryz.prog 54 #[.int .u8 k] w fun e w' =>e= .returned (.int .u8 (wkind k))∧w=w' :=by
 by_cases h1:k=73
 ·subst h1;go_enter Tryz.func54,Tryz.ntmps54;go_wp2;go_ret;exact ⟨rfl,rfl⟩
 by_cases h2:k=85
 ·subst h2;go_enter Tryz.func54,Tryz.ntmps54;go_wp2;go_ret;exact ⟨rfl,rfl⟩
 by_cases h3:k=68
 ·subst h3;go_enter Tryz.func54,Tryz.ntmps54;go_wp2;go_ret;exact ⟨rfl,rfl⟩
 by_cases h4:k=84
 ·subst h4;go_enter Tryz.func54,Tryz.ntmps54;go_wp2;go_ret;exact ⟨rfl,rfl⟩
 have HR:=Hm (show wkind k=0 by unfold wkind;rw [if_neg h1,if_neg h2,if_neg h3,if_neg h4])
 have k1:(k==73)=false:=by simpa using h1
 have k2:(k==85)=false:=by simpa using h2
 have k3:(k==68)=false:=by simpa using h3
 have k4:(k==84)=false:=by simpa using h4
 clear h1 h2 h3 h4
 go_enter Tryz.func54,Tryz.ntmps54
 go_wp2
 go_ret
 exact ⟨by rw [HR.out];rfl,rfl⟩
theorem rlet_any (k:Int) (w:World):Calls Tryz.prog 49 #[.int .u8 k] w fun e w' =>e= .returned (.bool (wlet k))∧w=w' :=by
 have HK:=Hm (fun W=>rkind_any k W)
 by_cases h1:k=66
 ·subst h1;go_enter Tryz.func49,Tryz.ntmps49;go_wp2;go_ret;exact ⟨rfl,rfl⟩
 by_cases h2:k=67
 ·subst h2;go_enter Tryz.func49,Tryz.ntmps49;go_wp2;go_ret;exact ⟨rfl,rfl⟩
 by_cases h3:k=82
 ·subst h3;go_enter Tryz.func49,Tryz.ntmps49;go_wp2;go_ret;exact ⟨rfl,rfl⟩
 have k1:(k==66)=false:=by simpa using h1
 have k2:(k==67)=false:=by simpa using h2
 have k3:(k==82)=false:=by simpa using h3
 have HR:=Hm (show wlet k=decide (0<wkind k) by unfold wlet;congr 1;simp [h1,h2,h3])
 obtain ⟨m,hm⟩:∃m,m=wkind k:=⟨_,rfl⟩
 rw [←hm] at HK HR
 clear hm h1 h2 h3
 go_enter Tryz.func49,Tryz.ntmps49
 go_wp2_with (go_at_call 54;refine (HK.out _).mono ?_;rintro e w2 ⟨rfl,rfl⟩)
 go_ret
 exact ⟨by rw [HR.out];rfl,rfl⟩
theorem ibyte (k:Int) (h0:0≤k) (h1:k<256):decide (0≤(Lib.indexByte [66,67,82,73,85,68,84] k.toNat.toUInt8:Int))=wlet k:=by
 obtain ⟨n,rfl⟩:=Int.eq_ofNat_of_zero_le h0
 have hn:n<256:=by omega
 clear h0 h1
 revert n
 decide+kernel
theorem let_any (k:Int) (w:World) (h0:0≤k) (h1:k<256):Calls Tryz.prog 71 #[.int .u8 k] w fun e w' =>e= .returned (.bool (wlet k))∧w=w' :=by
 have h:=Any.strings_IndexByte Tryz.lays137 ⟨#[66,67,82,73,85,68,84]⟩ k w
 change Calls Tryz.prog 100 _ _ _ at h
 have HC:=Hm h
 have HR:=Hm (ibyte k h0 h1)
 clear h
 go_enter Tryz.func71,Tryz.ntmps71
 go_wp2_with (go_at_call 100;refine HC.out.mono ?_;rintro e w2 ⟨rfl,rfl⟩)
 go_ret
 exact ⟨by rw [←HR.out];rfl,rfl⟩
end Go.Proofs.YtgmphpccpfaapaaGreatDoor
namespace Go.Proofs.YtgmphpccpfaapaaGreatDoor
open Go.RowKit
theorem exec_load {a:Act} {o:Oper} (ty:TypeId) (x:Operand) (ho:o.op= .load ty x) {p v:Value} {w:World} (hx:a.eval x=p) (hr:(Instr.loadAt ty p).run Tryz.prog w= .ok v w):(execOp a.eval o).run Tryz.prog w= .ok (.value v) w:=by
 unfold execOp
 simp only [ho,Sem.run_bind,Sem.run_pure,Result.andThen_ok,hx,hr]
theorem mright_any (p:ML) (N g:Nat) (c:Value) (ps:List RR) (w:World) (hp:p.at 5 K.pc w) (hlen:p.r.r.cols.length≤1000) (hcap:p.r.r.cols.length≤p.r.c) (hnm:p.r.r.nm.size≤9223372036854775807) (hcs:∀c∈p.r.r.cols,c.nm.size≤9223372036854775807)
 (hs:p.e.e.small) (hwk:p.e.e.wk) (h0:0≤p.k) (h1:p.k<256) (hk:Kin w) (hc:Ca w N g c ps):
 Calls Tryz.prog 38 #[p.agg, .pointer (some ⟨g,0,none⟩)] w fun e w' =>e= .returned (.int .i64 (msgE p.m (ps.map RR.r)))∧Ext w w' :=by
 have HL:=Hm (fun W=>let_any p.k W h0 h1)
 have HOW:=Hm (fun W=>mown_any p W)
 have HA:=Hm (fun W (h:Ext w W)=>malike_any p p.own W (hp.ext h) ((ML.own_at hp).ext h) hlen hs (by
  unfold ML.own;dsimp only
  have z:Ev0.small:=⟨by show 0≤_;omega,by show 0≤_;omega,by show 0≤_;omega⟩
  split
  ·exact z
  ·split
   ·exact z
   ·split
    ·exact z
    ·exact hs))
 have HR8:=Hm (fun W (h:Ext w W)=>right8_any p.r.r.oid p.r.r.ver p.r.r.nm p.r.r.id p.r.r.cols p.r.a p.r.c W (hp.1.ext h) hcap hlen hnm hcs)
 have HER:=Hm (fun W (h:Ext w W)=>eright_any p.e N g c ps W (hp.2.ext h) hs hwk (hc.ext h))
 obtain ⟨kb,hkb,hkl⟩:=hk.look h0 h1
 have HKB:=Hm hkb
 have HKL:=Hm hkl
 clear hp hlen hcap hnm hcs hs hwk h0 h1 hk hc hkb hkl
 rw [ML.own_m] at HA
 obtain ⟨k,x,st,n,⟨⟨o,v,nm,id,cols⟩,ca,cc⟩,⟨⟨kd,ao,av,old,b,aa,rs,fl⟩,ba,bc,aad,ac,ra,rc⟩⟩:=p
 unfold EL.agg at HER
 rw [show (ML.agg (⟨k,x,st,n,⟨⟨o,v,nm,id,cols⟩,ca,cc⟩,⟨⟨kd,ao,av,old,b,aa,rs,fl⟩,ba,bc,aad,ac,ra,rc⟩⟩:ML))= .agg #[.int .u8 k, .int .u32 x, .int .u64 st, .int .u32 n, .int .u32 o, .int .u32 v, .string nm, .int .u8 id, .slice ca cols.length cc, .int .u8 kd, .int .u32 ao, .int .u32 av, .int .u8 old, .slice ba b.length bc, .slice aad aa.length ac, .slice ra rs.length rc, .int .u8 fl] from rfl] at HOW HA⊢
 unfold ML.m at HA⊢
 dsimp only at HL HA HR8 HER HKL⊢
 generalize (ML.own (⟨k,x,st,n,⟨⟨o,v,nm,id,cols⟩,ca,cc⟩,⟨⟨kd,ao,av,old,b,aa,rs,fl⟩,ba,bc,aad,ac,ra,rc⟩⟩:ML)).agg=OV at HOW HA
 by_cases hl:wlet k=false
 ·have HR:=Hm (show msgE (⟨k,x,st,n,⟨o,v,nm,id,cols⟩,⟨kd,ao,av,old,b,aa,rs,fl⟩⟩:Msg) (ps.map RR.r)=7 from if_pos hl)
  rw [hl] at HL
  clear HOW HA HR8 HER HKB HKL
  go_enter Tryz.func38,Tryz.ntmps38
  go_wp2_with (go_at_call 71;refine (HL.out _).mono ?_;rintro e w1 ⟨rfl,rfl⟩)
  go_ret
  exact ⟨ret_int HR.out.symm,by exact eX⟩
 have HR1:=Hm (show msgE (⟨k,x,st,n,⟨o,v,nm,id,cols⟩,⟨kd,ao,av,old,b,aa,rs,fl⟩⟩:Msg) (ps.map RR.r)=_ from if_neg hl)
 rw [show wlet k=true by simpa using hl] at HL
 clear hl
 by_cases hA:msgB (⟨k,x,st,n,⟨o,v,nm,id,cols⟩,⟨kd,ao,av,old,b,aa,rs,fl⟩⟩:Msg) (Msg.own (⟨k,x,st,n,⟨o,v,nm,id,cols⟩,⟨kd,ao,av,old,b,aa,rs,fl⟩⟩:Msg))=false
 ·have HR:=Hm (show msgE (⟨k,x,st,n,⟨o,v,nm,id,cols⟩,⟨kd,ao,av,old,b,aa,rs,fl⟩⟩:Msg) (ps.map RR.r)=3 from by rw [HR1.out,if_pos hA])
  rw [hA] at HA
  clear HR1 hA HR8 HER HKB HKL
  go_enter Tryz.func38,Tryz.ntmps38
  go_wp2_with (go_at_call 71;refine (HL.out _).mono ?_;rintro e w1 ⟨rfl,rfl⟩)
  have HX:=Hm (Blk.new w #[.int .u8 k, .int .u32 x, .int .u64 st, .int .u32 n, .int .u32 o, .int .u32 v, .string nm, .int .u8 id, .slice ca cols.length cc, .int .u8 kd, .int .u32 ao, .int .u32 av, .int .u8 old, .slice ba b.length bc, .slice aad aa.length ac, .slice ra rs.length rc, .int .u8 fl] 79)
  have hA0:Hid (Ext (w.alloc (.cells #[.int .u8 k, .int .u32 x, .int .u64 st, .int .u32 n, .int .u32 o, .int .u32 v, .string nm, .int .u8 id, .slice ca cols.length cc, .int .u8 kd, .int .u32 ao, .int .u32 av, .int .u8 old, .slice ba b.length bc, .slice aad aa.length ac, .slice ra rs.length rc, .int .u8 fl] 79)) (w.alloc (.cells #[.int .u8 k, .int .u32 x, .int .u64 st, .int .u32 n, .int .u32 o, .int .u32 v, .string nm, .int .u8 id, .slice ca cols.length cc, .int .u8 kd, .int .u32 ao, .int .u32 av, .int .u8 old, .slice ba b.length bc, .slice aad aa.length ac, .slice ra rs.length rc, .int .u8 fl] 79)).drew):=Hm (by exact eX)
  refine wp_region_head 3 (fun w' =>Ext (w.alloc (.cells #[.int .u8 k, .int .u32 x, .int .u64 st, .int .u32 n, .int .u32 o, .int .u32 v, .string nm, .int .u8 id, .slice ca cols.length cc, .int .u8 kd, .int .u32 ao, .int .u32 av, .int .u8 old, .slice ba b.length bc, .slice aad aa.length ac, .slice ra rs.length rc, .int .u8 fl] 79)) w') (by kernel_rfl) (by decide) ?_
  (refine wpHd_take (i:=0) (v:= ?_) rfl (by kernel_rfl) (by kernel_rfl) (by kernel_rfl) (fun _ _ _ h=>h) (Or.inl ⟨by rfl, ?_⟩) hA0.out ?_;rotate_left 1; · (intro w' hS';refine (exec_load 79 (.tmp 2) rfl (p:= .pointer (some ⟨w.heap.size,0,none⟩)) (by go_simp) (load17 (HX.out.ext hS'))).trans ?_;with_reducible rfl))
  (refine wpHd_take (i:=1) (v:= ?_) rfl (by kernel_rfl) (by kernel_rfl) (by kernel_rfl) (fun _ _ _ h=>h) (Or.inl ⟨by rfl, ?_⟩) hA0.out ?_;rotate_left 1; · (intro w' hS';refine (exec_load 79 (.tmp 2) rfl (p:= .pointer (some ⟨w.heap.size,0,none⟩)) (by go_simp) (load17 (HX.out.ext hS'))).trans ?_;with_reducible rfl))
  refine wpHd_one (i:=2) rfl rfl (by kernel_rfl) (fun KK hK=> ?_)
  go_simp
  refine (HOW.out _).mono ?_
  rintro e w2 ⟨rfl,hb2⟩
  have HB2:=Hm (show Ext (w.alloc (.cells #[.int .u8 k, .int .u32 x, .int .u64 st, .int .u32 n, .int .u32 o, .int .u32 v, .string nm, .int .u8 id, .slice ca cols.length cc, .int .u8 kd, .int .u32 ao, .int .u32 av, .int .u8 old, .slice ba b.length bc, .slice aad aa.length ac, .slice ra rs.length rc, .int .u8 fl] 79)) w2 by exact eX)
  refine hK.out _ _ HB2.out (fun hA=> ?_)
  clear hK KK hA hb2 hA0
  have hb2:=HB2.out
  refine wpHd_tail (by kernel_rfl) ?_
  simp only [List.drop_succ_cons,List.drop_zero]
  go_wp2_with (go_at_call 72;refine (HA.out _ (by exact eX)).mono ?_;rintro e w3 ⟨rfl,hb3⟩)
  go_ret
  exact ⟨ret_int HR.out.symm,by exact eX⟩
 have HR2:=Hm (show msgE (⟨k,x,st,n,⟨o,v,nm,id,cols⟩,⟨kd,ao,av,old,b,aa,rs,fl⟩⟩:Msg) (ps.map RR.r)=_ from by rw [HR1.out,if_neg hA])
 rw [show msgB (⟨k,x,st,n,⟨o,v,nm,id,cols⟩,⟨kd,ao,av,old,b,aa,rs,fl⟩⟩:Msg) (Msg.own (⟨k,x,st,n,⟨o,v,nm,id,cols⟩,⟨kd,ao,av,old,b,aa,rs,fl⟩⟩:Msg))=true by simpa using hA] at HA
 clear HR1 hA
 go_enter Tryz.func38,Tryz.ntmps38
 go_wp2_with (go_at_call 71;refine (HL.out _).mono ?_;rintro e w1 ⟨rfl,rfl⟩)
 have HX:=Hm (Blk.new w #[.int .u8 k, .int .u32 x, .int .u64 st, .int .u32 n, .int .u32 o, .int .u32 v, .string nm, .int .u8 id, .slice ca cols.length cc, .int .u8 kd, .int .u32 ao, .int .u32 av, .int .u8 old, .slice ba b.length bc, .slice aad aa.length ac, .slice ra rs.length rc, .int .u8 fl] 79)
 have hA0:Hid (Ext (w.alloc (.cells #[.int .u8 k, .int .u32 x, .int .u64 st, .int .u32 n, .int .u32 o, .int .u32 v, .string nm, .int .u8 id, .slice ca cols.length cc, .int .u8 kd, .int .u32 ao, .int .u32 av, .int .u8 old, .slice ba b.length bc, .slice aad aa.length ac, .slice ra rs.length rc, .int .u8 fl] 79)) (w.alloc (.cells #[.int .u8 k, .int .u32 x, .int .u64 st, .int .u32 n, .int .u32 o, .int .u32 v, .string nm, .int .u8 id, .slice ca cols.length cc, .int .u8 kd, .int .u32 ao, .int .u32 av, .int .u8 old, .slice ba b.length bc, .slice aad aa.length ac, .slice ra rs.length rc, .int .u8 fl] 79)).drew):=Hm (by exact eX)
 refine wp_region_head 3 (fun w' =>Ext (w.alloc (.cells #[.int .u8 k, .int .u32 x, .int .u64 st, .int .u32 n, .int .u32 o, .int .u32 v, .string nm, .int .u8 id, .slice ca cols.length cc, .int .u8 kd, .int .u32 ao, .int .u32 av, .int .u8 old, .slice ba b.length bc, .slice aad aa.length ac, .slice ra rs.length rc, .int .u8 fl] 79)) w') (by kernel_rfl) (by decide) ?_
 (refine wpHd_take (i:=0) (v:= ?_) rfl (by kernel_rfl) (by kernel_rfl) (by kernel_rfl) (fun _ _ _ h=>h) (Or.inl ⟨by rfl, ?_⟩) hA0.out ?_;rotate_left 1; · (intro w' hS';refine (exec_load 79 (.tmp 2) rfl (p:= .pointer (some ⟨w.heap.size,0,none⟩)) (by go_simp) (load17 (HX.out.ext hS'))).trans ?_;with_reducible rfl))
 (refine wpHd_take (i:=1) (v:= ?_) rfl (by kernel_rfl) (by kernel_rfl) (by kernel_rfl) (fun _ _ _ h=>h) (Or.inl ⟨by rfl, ?_⟩) hA0.out ?_;rotate_left 1; · (intro w' hS';refine (exec_load 79 (.tmp 2) rfl (p:= .pointer (some ⟨w.heap.size,0,none⟩)) (by go_simp) (load17 (HX.out.ext hS'))).trans ?_;with_reducible rfl))
 refine wpHd_one (i:=2) rfl rfl (by kernel_rfl) (fun KK hK=> ?_)
 go_simp
 refine (HOW.out _).mono ?_
 rintro e w2 ⟨rfl,hb2⟩
 have HB2:=Hm (show Ext (w.alloc (.cells #[.int .u8 k, .int .u32 x, .int .u64 st, .int .u32 n, .int .u32 o, .int .u32 v, .string nm, .int .u8 id, .slice ca cols.length cc, .int .u8 kd, .int .u32 ao, .int .u32 av, .int .u8 old, .slice ba b.length bc, .slice aad aa.length ac, .slice ra rs.length rc, .int .u8 fl] 79)) w2 by exact eX)
 refine hK.out _ _ HB2.out (fun hA=> ?_)
 clear hK KK hA hb2 hA0
 have hb2:=HB2.out
 refine wpHd_tail (by kernel_rfl) ?_
 simp only [List.drop_succ_cons,List.drop_zero]
 go_upto_region 5 with (go_at_call 72;refine (HA.out _ (by exact eX)).mono ?_;rintro e w3 ⟨rfl,hb3⟩)
 have hEw:=Hm (show Ext w w3 by exact eX)
 have HX3:=Hm (HX.out.ext (HB2.out.trans hb3))
 clear HX HB2 hb2 hb3 HL HA HOW
 have gx:=HX3.out.cell
 have zx:=HX3.out.lt
 by_cases q1:k=66
 ·have q1' :(k==66)=true:=by simpa using q1
  by_cases qx:x=0
  ·have HR:=Hm (show msgE (⟨k,x,st,n,⟨o,v,nm,id,cols⟩,⟨kd,ao,av,old,b,aa,rs,fl⟩⟩:Msg) (ps.map RR.r)=4 from by rw [HR2.out,if_pos (.inl q1),if_pos qx])
   have qx' :(x==0)=true:=by simpa using qx
   clear qx HR2
   go_wp2
   go_ret
   exact ⟨ret_int HR.out.symm,hEw.out⟩
  ·have HR:=Hm (show msgE (⟨k,x,st,n,⟨o,v,nm,id,cols⟩,⟨kd,ao,av,old,b,aa,rs,fl⟩⟩:Msg) (ps.map RR.r)=0 from by rw [HR2.out,if_pos (.inl q1),if_neg qx])
   have qx' :(x==0)=false:=by simpa using qx
   clear qx HR2
   go_wp2
   go_ret
   exact ⟨ret_int HR.out.symm,hEw.out⟩
 have q1' :(k==66)=false:=by simpa using q1
 by_cases q2:k=67
 ·have q2' :(k==67)=true:=by simpa using q2
  by_cases qx:x=0
  ·have HR:=Hm (show msgE (⟨k,x,st,n,⟨o,v,nm,id,cols⟩,⟨kd,ao,av,old,b,aa,rs,fl⟩⟩:Msg) (ps.map RR.r)=4 from by rw [HR2.out,if_pos (.inr q2),if_pos qx])
   have qx' :(x==0)=true:=by simpa using qx
   clear qx HR2
   go_wp2
   go_ret
   exact ⟨ret_int HR.out.symm,hEw.out⟩
  ·have HR:=Hm (show msgE (⟨k,x,st,n,⟨o,v,nm,id,cols⟩,⟨kd,ao,av,old,b,aa,rs,fl⟩⟩:Msg) (ps.map RR.r)=0 from by rw [HR2.out,if_pos (.inr q2),if_neg qx])
   have qx' :(x==0)=false:=by simpa using qx
   clear qx HR2
   go_wp2
   go_ret
   exact ⟨ret_int HR.out.symm,hEw.out⟩
 have q2' :(k==67)=false:=by simpa using q2
 have HR3:=Hm (show msgE (⟨k,x,st,n,⟨o,v,nm,id,cols⟩,⟨kd,ao,av,old,b,aa,rs,fl⟩⟩:Msg) (ps.map RR.r)=_ from by rw [HR2.out,if_neg (fun h=>h.elim q1 q2)])
 clear HR2 q1 q2
 by_cases q3:k=82
 ·have q3' :(k==82)=true:=by simpa using q3
  have HR:=Hm (show msgE (⟨k,x,st,n,⟨o,v,nm,id,cols⟩,⟨kd,ao,av,old,b,aa,rs,fl⟩⟩:Msg) (ps.map RR.r)=_ from by rw [HR3.out,if_pos q3])
  clear HR3 q3
  go_wp2_with (go_at_call 63;refine (HR8.out _ hEw.out).mono ?_;rintro e w4 ⟨rfl,hb4⟩)
  go_ret
  exact ⟨ret_int HR.out.symm,hEw.out.trans hb4⟩
 have q3' :(k==82)=false:=by simpa using q3
 obtain ⟨hg1,hg2⟩:=HKB.out w3 hEw.out
 have hlk:=HKL.out w3 hEw.out
 clear HKB HKL
 by_cases q4:kd=wkind k
 ·have q4' :(kd !=wkind k)=false:=by simpa using q4
  have HR:=Hm (show msgE (⟨k,x,st,n,⟨o,v,nm,id,cols⟩,⟨kd,ao,av,old,b,aa,rs,fl⟩⟩:Msg) (ps.map RR.r)=_ from by rw [HR3.out,if_neg q3,if_neg (fun h=>h q4)])
  clear HR3 q3 q4
  go_wp2_with (go_at_call 67;refine (HER.out _ hEw.out).mono ?_;rintro e w4 ⟨rfl,hb4⟩)
  go_ret
  exact ⟨ret_int HR.out.symm,hEw.out.trans hb4⟩
 ·have q4' :(kd !=wkind k)=true:=by simpa using q4
  have HR:=Hm (show msgE (⟨k,x,st,n,⟨o,v,nm,id,cols⟩,⟨kd,ao,av,old,b,aa,rs,fl⟩⟩:Msg) (ps.map RR.r)=7 from by rw [HR3.out,if_neg q3,if_pos q4])
  clear HR3 q3 q4
  go_wp2
  go_ret
  exact ⟨ret_int HR.out.symm,hEw.out⟩
end Go.Proofs.YtgmphpccpfaapaaGreatDoor
