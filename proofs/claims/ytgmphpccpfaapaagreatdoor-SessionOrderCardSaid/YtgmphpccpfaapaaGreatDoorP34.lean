/-
What is wrong with an event's images: the reference's answer.
-/
import Derived.Test.YtgmphpccpfaapaaGreatDoorP16
set_option maxRecDepth 100000
set_option maxHeartbeats 16000000
namespace Go.Proofs.YtgmphpccpfaapaaGreatDoor
open Go.RowKit
theorem rimage_any (kind old:Int) (lb la:List K) (ba aa:Option Addr) (bc ac:Nat) (oid ver:Int) (nm:ByteArray) (id:Int) (cols:List Col) (a2:Option Addr) (cap2:Nat) (w:World) (hl2:Sl w (.slice a2 cols.length cap2) 3 (cols.map Col.cells)) (hlen2:cols.length≤1000) (hb:Sl w (.slice ba lb.length bc) 6 (lb.map K.rc)) (ha:Sl w (.slice aa la.length ac) 6 (la.map K.rc)) (hlb:lb.length≤1000) (hla:la.length≤1000) (hsb:∀c∈lb,c.wk) (hsa:∀c∈la,c.wk) (hs2:∀c∈cols,c.nm.size≤9223372036854775807) (hnm:nm.size≤9223372036854775807) (hid:0≤id) (hold:0≤old):
 Calls Tryz.prog 86 #[.agg #[.int .u32 oid, .int .u32 ver, .string nm, .int .u8 id, .slice a2 cols.length cap2], .int .u8 kind, .int .u8 old, .slice ba lb.length bc, .slice aa la.length ac] w fun e w' =>e= .returned (.int .i64 (imgE (⟨oid,ver,nm,id,cols⟩:Rl) kind old lb la))∧Ext w w' :=by
 have HKB:=Hm (fun W (h:Ext w W)=>risKey_any lb ba bc oid ver nm id cols a2 cap2 W (hb.ext h) (hl2.ext h) hlb hlen2 hsb hs2 hnm)
 have HFB:=Hm (fun W (h:Ext w W)=>risFull_any lb ba bc oid ver nm id cols a2 cap2 W (hb.ext h) (hl2.ext h) hlb hlen2 hsb hs2 hnm)
 have HFA:=Hm (fun W (h:Ext w W)=>risFull_any la aa ac oid ver nm id cols a2 cap2 W (ha.ext h) (hl2.ext h) hla hlen2 hsa hs2 hnm)
 have HDA:=Hm (fun W (h:Ext w W)=>rkeyed_any la aa ac oid ver nm id cols a2 cap2 W (ha.ext h) (hl2.ext h) hla hlen2 hsa hs2 hnm)
 have HKO:=Hm (fun W (h:Ext w W)=>rkeyOf_any la aa ac oid ver nm id cols a2 cap2 W (ha.ext h) (hl2.ext h) hla hlen2)
 have HAK:=Hm (fun W g c (h:Ext w W) (hr:Sl W (.slice g la.length c) 6 ((keyOf cols la).map K.rc))=>(show Calls Tryz.prog 84 #[.slice ba lb.length bc, .slice g la.length c] W _ from by have:=rsame_any lb (keyOf cols la) ba g bc c W (hb.ext h) (by rw [keyOf_len];exact hr) hlb (by rw [keyOf_len];exact hla);rwa [keyOf_len] at this))
 have HR:Hid (imgE (⟨oid,ver,nm,id,cols⟩:Rl) kind old lb la=if kind<4∨6<kind then 7 else if 2<old then 14 else if old=0∧0<lb.length then 14 else if kind=6∧0<la.length then 14 else if allowB id kind old=false then 14
  else if old=1∧isKeyE lb (⟨oid,ver,nm,id,cols⟩:Rl)≠0 then isKeyE lb (⟨oid,ver,nm,id,cols⟩:Rl) else if old=2∧isFullE lb (⟨oid,ver,nm,id,cols⟩:Rl)≠0 then isFullE lb (⟨oid,ver,nm,id,cols⟩:Rl) else if kind=6 then 0 else if kind=4∧isFullE la (⟨oid,ver,nm,id,cols⟩:Rl)≠0 then isFullE la (⟨oid,ver,nm,id,cols⟩:Rl) else if kind≠4∧keyedE la (⟨oid,ver,nm,id,cols⟩:Rl)≠0 then keyedE la (⟨oid,ver,nm,id,cols⟩:Rl) else if old=1∧rowB lb (keyOf cols la)=true then 13 else 0):=Hm rfl
 generalize imgE (⟨oid,ver,nm,id,cols⟩:Rl) kind old lb la=RES at HR⊢
 generalize isKeyE lb (⟨oid,ver,nm,id,cols⟩:Rl)=EKB at HKB HR
 generalize isFullE lb (⟨oid,ver,nm,id,cols⟩:Rl)=EFB at HFB HR
 generalize isFullE la (⟨oid,ver,nm,id,cols⟩:Rl)=EFA at HFA HR
 generalize keyedE la (⟨oid,ver,nm,id,cols⟩:Rl)=EDA at HDA HR
 generalize rowB lb (keyOf cols la)=BAK at HAK HR
 clear hl2 hb ha hsb hsa hs2 hnm
 by_cases hk:kind<4∨6<kind
 ·have HR2:=Hm (HR.out.trans (if_pos hk))
  clear HR
  rcases hk with hk|hk
  all_goals
   (try have hk4:4≤kind:=by omega)
   go_enter Tryz.func86,Tryz.ntmps86
   go_wp2
   go_ret
   exact ⟨ret_int HR2.out.symm,by exact eX⟩
 have hk3:kind=4∨kind=5∨kind=6:=by omega
 have HRk:=Hm (HR.out.trans (if_neg hk))
 clear HR hk
 by_cases ho:2<old
 ·have HR2:=Hm (HRk.out.trans (if_pos ho))
  clear HRk
  rcases hk3 with rfl|rfl|rfl
  all_goals
   go_enter Tryz.func86,Tryz.ntmps86
   go_wp2
   go_ret
   exact ⟨ret_int HR2.out.symm,by exact eX⟩
 have ho3:old=0∨old=1∨old=2:=by omega
 have HRo:=Hm (HRk.out.trans (if_neg ho))
 clear HRk ho hold
 have hi4:id=0∨id=1∨id=2∨2<id:=by omega
 rcases hk3 with rfl|rfl|rfl<;>rcases ho3 with rfl|rfl|rfl<;>rcases hi4 with hi|hi|hi|hi
 ·have e0:(id==0)=true:=by simp;omega
  have n0:(id !=0)=false:=by simp;omega
  have f0:((0:Int)==id)=true:=by simp;omega
  have m0:((0:Int) !=id)=false:=by simp;omega
  have e1:(id==1)=false:=by simp;omega
  have n1:(id !=1)=true:=by simp;omega
  have f1:((1:Int)==id)=false:=by simp;omega
  have m1:((1:Int) !=id)=true:=by simp;omega
  have e2:(id==2)=false:=by simp;omega
  have n2:(id !=2)=true:=by simp;omega
  have f2:((2:Int)==id)=false:=by simp;omega
  have m2:((2:Int) !=id)=true:=by simp;omega
  have hA:allowB id 4 0=true:=by rw [hi];decide
  clear hi
  by_cases hlb0:0<lb.length
  ·have HR2:=Hm (HRo.out.trans (if_pos ⟨rfl,hlb0⟩))
   clear HRo hA
   go_enter Tryz.func86,Tryz.ntmps86
   go_wp2
   go_ret
   exact ⟨ret_int HR2.out.symm,by exact eX⟩
  have hlb1:lb.length=0:=by omega
  have hlb2: ¬ ((0:Nat)<lb.length):=by omega
  have HR1:=Hm (HRo.out.trans (if_neg (fun h=>hlb2 h.2)))
  clear HRo hlb0 hlb1
  have HR1b:=Hm (HR1.out.trans ((if_neg (by rintro ⟨h,_⟩;revert h;decide)).trans (if_neg (by rw [hA];simp))))
  clear HR1 hA
  have HR3:=Hm (HR1b.out.trans ((if_neg (by simp)).trans (if_neg (by simp))))
  clear HR1b
  by_cases h1:EFA=0
  case neg=>
   have h1' :(EFA !=0)=true:=by simpa using h1
   have HR2:=Hm (HR3.out.trans ((if_neg (by decide)).trans (if_pos ⟨rfl,h1⟩)))
   clear h1
   go_enter Tryz.func86,Tryz.ntmps86
   go_wp2_with (first
    |(go_at_call 116;refine (HDA.out _ (by exact eX)).mono ?_;rintro e w6 ⟨rfl,hb6⟩;have hE6:Ext (w.alloc (.cells #[.int .u32 oid, .int .u32 ver, .string nm, .int .u8 id, .slice a2 cols.length cap2] 44)) w6:=(by exact eX);have g6:=((Blk.new w #[.int .u32 oid, .int .u32 ver, .string nm, .int .u8 id, .slice a2 cols.length cap2] 44).ext hE6).cell;clear hb6)
    |(go_at_call 115;refine (HFA.out _ (by exact eX)).mono ?_;rintro e w5 ⟨rfl,hb5⟩;have hE5:Ext (w.alloc (.cells #[.int .u32 oid, .int .u32 ver, .string nm, .int .u8 id, .slice a2 cols.length cap2] 44)) w5:=(by exact eX);have g5:=((Blk.new w #[.int .u32 oid, .int .u32 ver, .string nm, .int .u8 id, .slice a2 cols.length cap2] 44).ext hE5).cell;clear hb5))
   go_ret
   exact ⟨ret_int HR2.out.symm,by exact eX⟩
  subst h1
  have HR4:=Hm (HR3.out.trans ((if_neg (by decide)).trans ((if_neg (by simp)).trans (if_neg (by simp)))))
  clear HR3
  have HR2:=Hm (HR4.out.trans (if_neg (by simp)))
  clear HR4
  go_enter Tryz.func86,Tryz.ntmps86
  go_wp2_with (first
   |(go_at_call 116;refine (HDA.out _ (by exact eX)).mono ?_;rintro e w6 ⟨rfl,hb6⟩;have hE6:Ext (w.alloc (.cells #[.int .u32 oid, .int .u32 ver, .string nm, .int .u8 id, .slice a2 cols.length cap2] 44)) w6:=(by exact eX);have g6:=((Blk.new w #[.int .u32 oid, .int .u32 ver, .string nm, .int .u8 id, .slice a2 cols.length cap2] 44).ext hE6).cell;clear hb6)
   |(go_at_call 115;refine (HFA.out _ (by exact eX)).mono ?_;rintro e w5 ⟨rfl,hb5⟩;have hE5:Ext (w.alloc (.cells #[.int .u32 oid, .int .u32 ver, .string nm, .int .u8 id, .slice a2 cols.length cap2] 44)) w5:=(by exact eX);have g5:=((Blk.new w #[.int .u32 oid, .int .u32 ver, .string nm, .int .u8 id, .slice a2 cols.length cap2] 44).ext hE5).cell;clear hb5))
  go_ret
  exact ⟨ret_int HR2.out.symm,by exact eX⟩
 ·have e0:(id==0)=false:=by simp;omega
  have n0:(id !=0)=true:=by simp;omega
  have f0:((0:Int)==id)=false:=by simp;omega
  have m0:((0:Int) !=id)=true:=by simp;omega
  have e1:(id==1)=true:=by simp;omega
  have n1:(id !=1)=false:=by simp;omega
  have f1:((1:Int)==id)=true:=by simp;omega
  have m1:((1:Int) !=id)=false:=by simp;omega
  have e2:(id==2)=false:=by simp;omega
  have n2:(id !=2)=true:=by simp;omega
  have f2:((2:Int)==id)=false:=by simp;omega
  have m2:((2:Int) !=id)=true:=by simp;omega
  have hA:allowB id 4 0=true:=by rw [hi];decide
  clear hi
  by_cases hlb0:0<lb.length
  ·have HR2:=Hm (HRo.out.trans (if_pos ⟨rfl,hlb0⟩))
   clear HRo hA
   go_enter Tryz.func86,Tryz.ntmps86
   go_wp2
   go_ret
   exact ⟨ret_int HR2.out.symm,by exact eX⟩
  have hlb1:lb.length=0:=by omega
  have hlb2: ¬ ((0:Nat)<lb.length):=by omega
  have HR1:=Hm (HRo.out.trans (if_neg (fun h=>hlb2 h.2)))
  clear HRo hlb0 hlb1
  have HR1b:=Hm (HR1.out.trans ((if_neg (by rintro ⟨h,_⟩;revert h;decide)).trans (if_neg (by rw [hA];simp))))
  clear HR1 hA
  have HR3:=Hm (HR1b.out.trans ((if_neg (by simp)).trans (if_neg (by simp))))
  clear HR1b
  by_cases h1:EFA=0
  case neg=>
   have h1' :(EFA !=0)=true:=by simpa using h1
   have HR2:=Hm (HR3.out.trans ((if_neg (by decide)).trans (if_pos ⟨rfl,h1⟩)))
   clear h1
   go_enter Tryz.func86,Tryz.ntmps86
   go_wp2_with (first
    |(go_at_call 116;refine (HDA.out _ (by exact eX)).mono ?_;rintro e w6 ⟨rfl,hb6⟩;have hE6:Ext (w.alloc (.cells #[.int .u32 oid, .int .u32 ver, .string nm, .int .u8 id, .slice a2 cols.length cap2] 44)) w6:=(by exact eX);have g6:=((Blk.new w #[.int .u32 oid, .int .u32 ver, .string nm, .int .u8 id, .slice a2 cols.length cap2] 44).ext hE6).cell;clear hb6)
    |(go_at_call 115;refine (HFA.out _ (by exact eX)).mono ?_;rintro e w5 ⟨rfl,hb5⟩;have hE5:Ext (w.alloc (.cells #[.int .u32 oid, .int .u32 ver, .string nm, .int .u8 id, .slice a2 cols.length cap2] 44)) w5:=(by exact eX);have g5:=((Blk.new w #[.int .u32 oid, .int .u32 ver, .string nm, .int .u8 id, .slice a2 cols.length cap2] 44).ext hE5).cell;clear hb5))
   go_ret
   exact ⟨ret_int HR2.out.symm,by exact eX⟩
  subst h1
  have HR4:=Hm (HR3.out.trans ((if_neg (by decide)).trans ((if_neg (by simp)).trans (if_neg (by simp)))))
  clear HR3
  have HR2:=Hm (HR4.out.trans (if_neg (by simp)))
  clear HR4
  go_enter Tryz.func86,Tryz.ntmps86
  go_wp2_with (first
   |(go_at_call 116;refine (HDA.out _ (by exact eX)).mono ?_;rintro e w6 ⟨rfl,hb6⟩;have hE6:Ext (w.alloc (.cells #[.int .u32 oid, .int .u32 ver, .string nm, .int .u8 id, .slice a2 cols.length cap2] 44)) w6:=(by exact eX);have g6:=((Blk.new w #[.int .u32 oid, .int .u32 ver, .string nm, .int .u8 id, .slice a2 cols.length cap2] 44).ext hE6).cell;clear hb6)
   |(go_at_call 115;refine (HFA.out _ (by exact eX)).mono ?_;rintro e w5 ⟨rfl,hb5⟩;have hE5:Ext (w.alloc (.cells #[.int .u32 oid, .int .u32 ver, .string nm, .int .u8 id, .slice a2 cols.length cap2] 44)) w5:=(by exact eX);have g5:=((Blk.new w #[.int .u32 oid, .int .u32 ver, .string nm, .int .u8 id, .slice a2 cols.length cap2] 44).ext hE5).cell;clear hb5))
  go_ret
  exact ⟨ret_int HR2.out.symm,by exact eX⟩
 ·have e0:(id==0)=false:=by simp;omega
  have n0:(id !=0)=true:=by simp;omega
  have f0:((0:Int)==id)=false:=by simp;omega
  have m0:((0:Int) !=id)=true:=by simp;omega
  have e1:(id==1)=false:=by simp;omega
  have n1:(id !=1)=true:=by simp;omega
  have f1:((1:Int)==id)=false:=by simp;omega
  have m1:((1:Int) !=id)=true:=by simp;omega
  have e2:(id==2)=true:=by simp;omega
  have n2:(id !=2)=false:=by simp;omega
  have f2:((2:Int)==id)=true:=by simp;omega
  have m2:((2:Int) !=id)=false:=by simp;omega
  have hA:allowB id 4 0=true:=by rw [hi];decide
  clear hi
  by_cases hlb0:0<lb.length
  ·have HR2:=Hm (HRo.out.trans (if_pos ⟨rfl,hlb0⟩))
   clear HRo hA
   go_enter Tryz.func86,Tryz.ntmps86
   go_wp2
   go_ret
   exact ⟨ret_int HR2.out.symm,by exact eX⟩
  have hlb1:lb.length=0:=by omega
  have hlb2: ¬ ((0:Nat)<lb.length):=by omega
  have HR1:=Hm (HRo.out.trans (if_neg (fun h=>hlb2 h.2)))
  clear HRo hlb0 hlb1
  have HR1b:=Hm (HR1.out.trans ((if_neg (by rintro ⟨h,_⟩;revert h;decide)).trans (if_neg (by rw [hA];simp))))
  clear HR1 hA
  have HR3:=Hm (HR1b.out.trans ((if_neg (by simp)).trans (if_neg (by simp))))
  clear HR1b
  by_cases h1:EFA=0
  case neg=>
   have h1' :(EFA !=0)=true:=by simpa using h1
   have HR2:=Hm (HR3.out.trans ((if_neg (by decide)).trans (if_pos ⟨rfl,h1⟩)))
   clear h1
   go_enter Tryz.func86,Tryz.ntmps86
   go_wp2_with (first
    |(go_at_call 116;refine (HDA.out _ (by exact eX)).mono ?_;rintro e w6 ⟨rfl,hb6⟩;have hE6:Ext (w.alloc (.cells #[.int .u32 oid, .int .u32 ver, .string nm, .int .u8 id, .slice a2 cols.length cap2] 44)) w6:=(by exact eX);have g6:=((Blk.new w #[.int .u32 oid, .int .u32 ver, .string nm, .int .u8 id, .slice a2 cols.length cap2] 44).ext hE6).cell;clear hb6)
    |(go_at_call 115;refine (HFA.out _ (by exact eX)).mono ?_;rintro e w5 ⟨rfl,hb5⟩;have hE5:Ext (w.alloc (.cells #[.int .u32 oid, .int .u32 ver, .string nm, .int .u8 id, .slice a2 cols.length cap2] 44)) w5:=(by exact eX);have g5:=((Blk.new w #[.int .u32 oid, .int .u32 ver, .string nm, .int .u8 id, .slice a2 cols.length cap2] 44).ext hE5).cell;clear hb5))
   go_ret
   exact ⟨ret_int HR2.out.symm,by exact eX⟩
  subst h1
  have HR4:=Hm (HR3.out.trans ((if_neg (by decide)).trans ((if_neg (by simp)).trans (if_neg (by simp)))))
  clear HR3
  have HR2:=Hm (HR4.out.trans (if_neg (by simp)))
  clear HR4
  go_enter Tryz.func86,Tryz.ntmps86
  go_wp2_with (first
   |(go_at_call 116;refine (HDA.out _ (by exact eX)).mono ?_;rintro e w6 ⟨rfl,hb6⟩;have hE6:Ext (w.alloc (.cells #[.int .u32 oid, .int .u32 ver, .string nm, .int .u8 id, .slice a2 cols.length cap2] 44)) w6:=(by exact eX);have g6:=((Blk.new w #[.int .u32 oid, .int .u32 ver, .string nm, .int .u8 id, .slice a2 cols.length cap2] 44).ext hE6).cell;clear hb6)
   |(go_at_call 115;refine (HFA.out _ (by exact eX)).mono ?_;rintro e w5 ⟨rfl,hb5⟩;have hE5:Ext (w.alloc (.cells #[.int .u32 oid, .int .u32 ver, .string nm, .int .u8 id, .slice a2 cols.length cap2] 44)) w5:=(by exact eX);have g5:=((Blk.new w #[.int .u32 oid, .int .u32 ver, .string nm, .int .u8 id, .slice a2 cols.length cap2] 44).ext hE5).cell;clear hb5))
  go_ret
  exact ⟨ret_int HR2.out.symm,by exact eX⟩
 ·have e0:(id==0)=false:=by simp;omega
  have n0:(id !=0)=true:=by simp;omega
  have f0:((0:Int)==id)=false:=by simp;omega
  have m0:((0:Int) !=id)=true:=by simp;omega
  have e1:(id==1)=false:=by simp;omega
  have n1:(id !=1)=true:=by simp;omega
  have f1:((1:Int)==id)=false:=by simp;omega
  have m1:((1:Int) !=id)=true:=by simp;omega
  have e2:(id==2)=false:=by simp;omega
  have n2:(id !=2)=true:=by simp;omega
  have f2:((2:Int)==id)=false:=by simp;omega
  have m2:((2:Int) !=id)=true:=by simp;omega
  have hA:allowB id 4 0=true:=by unfold allowB;simp<;>omega
  clear hi
  by_cases hlb0:0<lb.length
  ·have HR2:=Hm (HRo.out.trans (if_pos ⟨rfl,hlb0⟩))
   clear HRo hA
   go_enter Tryz.func86,Tryz.ntmps86
   go_wp2
   go_ret
   exact ⟨ret_int HR2.out.symm,by exact eX⟩
  have hlb1:lb.length=0:=by omega
  have hlb2: ¬ ((0:Nat)<lb.length):=by omega
  have HR1:=Hm (HRo.out.trans (if_neg (fun h=>hlb2 h.2)))
  clear HRo hlb0 hlb1
  have HR1b:=Hm (HR1.out.trans ((if_neg (by rintro ⟨h,_⟩;revert h;decide)).trans (if_neg (by rw [hA];simp))))
  clear HR1 hA
  have HR3:=Hm (HR1b.out.trans ((if_neg (by simp)).trans (if_neg (by simp))))
  clear HR1b
  by_cases h1:EFA=0
  case neg=>
   have h1' :(EFA !=0)=true:=by simpa using h1
   have HR2:=Hm (HR3.out.trans ((if_neg (by decide)).trans (if_pos ⟨rfl,h1⟩)))
   clear h1
   go_enter Tryz.func86,Tryz.ntmps86
   go_wp2_with (first
    |(go_at_call 116;refine (HDA.out _ (by exact eX)).mono ?_;rintro e w6 ⟨rfl,hb6⟩;have hE6:Ext (w.alloc (.cells #[.int .u32 oid, .int .u32 ver, .string nm, .int .u8 id, .slice a2 cols.length cap2] 44)) w6:=(by exact eX);have g6:=((Blk.new w #[.int .u32 oid, .int .u32 ver, .string nm, .int .u8 id, .slice a2 cols.length cap2] 44).ext hE6).cell;clear hb6)
    |(go_at_call 115;refine (HFA.out _ (by exact eX)).mono ?_;rintro e w5 ⟨rfl,hb5⟩;have hE5:Ext (w.alloc (.cells #[.int .u32 oid, .int .u32 ver, .string nm, .int .u8 id, .slice a2 cols.length cap2] 44)) w5:=(by exact eX);have g5:=((Blk.new w #[.int .u32 oid, .int .u32 ver, .string nm, .int .u8 id, .slice a2 cols.length cap2] 44).ext hE5).cell;clear hb5))
   go_ret
   exact ⟨ret_int HR2.out.symm,by exact eX⟩
  subst h1
  have HR4:=Hm (HR3.out.trans ((if_neg (by decide)).trans ((if_neg (by simp)).trans (if_neg (by simp)))))
  clear HR3
  have HR2:=Hm (HR4.out.trans (if_neg (by simp)))
  clear HR4
  go_enter Tryz.func86,Tryz.ntmps86
  go_wp2_with (first
   |(go_at_call 116;refine (HDA.out _ (by exact eX)).mono ?_;rintro e w6 ⟨rfl,hb6⟩;have hE6:Ext (w.alloc (.cells #[.int .u32 oid, .int .u32 ver, .string nm, .int .u8 id, .slice a2 cols.length cap2] 44)) w6:=(by exact eX);have g6:=((Blk.new w #[.int .u32 oid, .int .u32 ver, .string nm, .int .u8 id, .slice a2 cols.length cap2] 44).ext hE6).cell;clear hb6)
   |(go_at_call 115;refine (HFA.out _ (by exact eX)).mono ?_;rintro e w5 ⟨rfl,hb5⟩;have hE5:Ext (w.alloc (.cells #[.int .u32 oid, .int .u32 ver, .string nm, .int .u8 id, .slice a2 cols.length cap2] 44)) w5:=(by exact eX);have g5:=((Blk.new w #[.int .u32 oid, .int .u32 ver, .string nm, .int .u8 id, .slice a2 cols.length cap2] 44).ext hE5).cell;clear hb5))
  go_ret
  exact ⟨ret_int HR2.out.symm,by exact eX⟩
 ·have e0:(id==0)=true:=by simp;omega
  have n0:(id !=0)=false:=by simp;omega
  have f0:((0:Int)==id)=true:=by simp;omega
  have m0:((0:Int) !=id)=false:=by simp;omega
  have e1:(id==1)=false:=by simp;omega
  have n1:(id !=1)=true:=by simp;omega
  have f1:((1:Int)==id)=false:=by simp;omega
  have m1:((1:Int) !=id)=true:=by simp;omega
  have e2:(id==2)=false:=by simp;omega
  have n2:(id !=2)=true:=by simp;omega
  have f2:((2:Int)==id)=false:=by simp;omega
  have m2:((2:Int) !=id)=true:=by simp;omega
  have hA:allowB id 4 1=false:=by rw [hi];decide
  clear hi
  have HR2:=Hm (HRo.out.trans (three14 hA))
  clear HRo hA
  go_enter Tryz.func86,Tryz.ntmps86
  go_wp2
  all_goals
   go_ret
   exact ⟨ret_int HR2.out.symm,by exact eX⟩
 ·have e0:(id==0)=false:=by simp;omega
  have n0:(id !=0)=true:=by simp;omega
  have f0:((0:Int)==id)=false:=by simp;omega
  have m0:((0:Int) !=id)=true:=by simp;omega
  have e1:(id==1)=true:=by simp;omega
  have n1:(id !=1)=false:=by simp;omega
  have f1:((1:Int)==id)=true:=by simp;omega
  have m1:((1:Int) !=id)=false:=by simp;omega
  have e2:(id==2)=false:=by simp;omega
  have n2:(id !=2)=true:=by simp;omega
  have f2:((2:Int)==id)=false:=by simp;omega
  have m2:((2:Int) !=id)=true:=by simp;omega
  have hA:allowB id 4 1=false:=by rw [hi];decide
  clear hi
  have HR2:=Hm (HRo.out.trans (three14 hA))
  clear HRo hA
  go_enter Tryz.func86,Tryz.ntmps86
  go_wp2
  all_goals
   go_ret
   exact ⟨ret_int HR2.out.symm,by exact eX⟩
 ·have e0:(id==0)=false:=by simp;omega
  have n0:(id !=0)=true:=by simp;omega
  have f0:((0:Int)==id)=false:=by simp;omega
  have m0:((0:Int) !=id)=true:=by simp;omega
  have e1:(id==1)=false:=by simp;omega
  have n1:(id !=1)=true:=by simp;omega
  have f1:((1:Int)==id)=false:=by simp;omega
  have m1:((1:Int) !=id)=true:=by simp;omega
  have e2:(id==2)=true:=by simp;omega
  have n2:(id !=2)=false:=by simp;omega
  have f2:((2:Int)==id)=true:=by simp;omega
  have m2:((2:Int) !=id)=false:=by simp;omega
  have hA:allowB id 4 1=false:=by rw [hi];decide
  clear hi
  have HR2:=Hm (HRo.out.trans (three14 hA))
  clear HRo hA
  go_enter Tryz.func86,Tryz.ntmps86
  go_wp2
  all_goals
   go_ret
   exact ⟨ret_int HR2.out.symm,by exact eX⟩
 ·have e0:(id==0)=false:=by simp;omega
  have n0:(id !=0)=true:=by simp;omega
  have f0:((0:Int)==id)=false:=by simp;omega
  have m0:((0:Int) !=id)=true:=by simp;omega
  have e1:(id==1)=false:=by simp;omega
  have n1:(id !=1)=true:=by simp;omega
  have f1:((1:Int)==id)=false:=by simp;omega
  have m1:((1:Int) !=id)=true:=by simp;omega
  have e2:(id==2)=false:=by simp;omega
  have n2:(id !=2)=true:=by simp;omega
  have f2:((2:Int)==id)=false:=by simp;omega
  have m2:((2:Int) !=id)=true:=by simp;omega
  have hA:allowB id 4 1=false:=by unfold allowB;simp<;>omega
  clear hi
  have HR2:=Hm (HRo.out.trans (three14 hA))
  clear HRo hA
  go_enter Tryz.func86,Tryz.ntmps86
  go_wp2
  all_goals
   go_ret
   exact ⟨ret_int HR2.out.symm,by exact eX⟩
 ·have e0:(id==0)=true:=by simp;omega
  have n0:(id !=0)=false:=by simp;omega
  have f0:((0:Int)==id)=true:=by simp;omega
  have m0:((0:Int) !=id)=false:=by simp;omega
  have e1:(id==1)=false:=by simp;omega
  have n1:(id !=1)=true:=by simp;omega
  have f1:((1:Int)==id)=false:=by simp;omega
  have m1:((1:Int) !=id)=true:=by simp;omega
  have e2:(id==2)=false:=by simp;omega
  have n2:(id !=2)=true:=by simp;omega
  have f2:((2:Int)==id)=false:=by simp;omega
  have m2:((2:Int) !=id)=true:=by simp;omega
  have hA:allowB id 4 2=false:=by rw [hi];decide
  clear hi
  have HR2:=Hm (HRo.out.trans (three14 hA))
  clear HRo hA
  go_enter Tryz.func86,Tryz.ntmps86
  go_wp2
  all_goals
   go_ret
   exact ⟨ret_int HR2.out.symm,by exact eX⟩
 ·have e0:(id==0)=false:=by simp;omega
  have n0:(id !=0)=true:=by simp;omega
  have f0:((0:Int)==id)=false:=by simp;omega
  have m0:((0:Int) !=id)=true:=by simp;omega
  have e1:(id==1)=true:=by simp;omega
  have n1:(id !=1)=false:=by simp;omega
  have f1:((1:Int)==id)=true:=by simp;omega
  have m1:((1:Int) !=id)=false:=by simp;omega
  have e2:(id==2)=false:=by simp;omega
  have n2:(id !=2)=true:=by simp;omega
  have f2:((2:Int)==id)=false:=by simp;omega
  have m2:((2:Int) !=id)=true:=by simp;omega
  have hA:allowB id 4 2=false:=by rw [hi];decide
  clear hi
  have HR2:=Hm (HRo.out.trans (three14 hA))
  clear HRo hA
  go_enter Tryz.func86,Tryz.ntmps86
  go_wp2
  all_goals
   go_ret
   exact ⟨ret_int HR2.out.symm,by exact eX⟩
 ·have e0:(id==0)=false:=by simp;omega
  have n0:(id !=0)=true:=by simp;omega
  have f0:((0:Int)==id)=false:=by simp;omega
  have m0:((0:Int) !=id)=true:=by simp;omega
  have e1:(id==1)=false:=by simp;omega
  have n1:(id !=1)=true:=by simp;omega
  have f1:((1:Int)==id)=false:=by simp;omega
  have m1:((1:Int) !=id)=true:=by simp;omega
  have e2:(id==2)=true:=by simp;omega
  have n2:(id !=2)=false:=by simp;omega
  have f2:((2:Int)==id)=true:=by simp;omega
  have m2:((2:Int) !=id)=false:=by simp;omega
  have hA:allowB id 4 2=false:=by rw [hi];decide
  clear hi
  have HR2:=Hm (HRo.out.trans (three14 hA))
  clear HRo hA
  go_enter Tryz.func86,Tryz.ntmps86
  go_wp2
  all_goals
   go_ret
   exact ⟨ret_int HR2.out.symm,by exact eX⟩
 ·have e0:(id==0)=false:=by simp;omega
  have n0:(id !=0)=true:=by simp;omega
  have f0:((0:Int)==id)=false:=by simp;omega
  have m0:((0:Int) !=id)=true:=by simp;omega
  have e1:(id==1)=false:=by simp;omega
  have n1:(id !=1)=true:=by simp;omega
  have f1:((1:Int)==id)=false:=by simp;omega
  have m1:((1:Int) !=id)=true:=by simp;omega
  have e2:(id==2)=false:=by simp;omega
  have n2:(id !=2)=true:=by simp;omega
  have f2:((2:Int)==id)=false:=by simp;omega
  have m2:((2:Int) !=id)=true:=by simp;omega
  have hA:allowB id 4 2=false:=by unfold allowB;simp<;>omega
  clear hi
  have HR2:=Hm (HRo.out.trans (three14 hA))
  clear HRo hA
  go_enter Tryz.func86,Tryz.ntmps86
  go_wp2
  all_goals
   go_ret
   exact ⟨ret_int HR2.out.symm,by exact eX⟩
 ·have e0:(id==0)=true:=by simp;omega
  have n0:(id !=0)=false:=by simp;omega
  have f0:((0:Int)==id)=true:=by simp;omega
  have m0:((0:Int) !=id)=false:=by simp;omega
  have e1:(id==1)=false:=by simp;omega
  have n1:(id !=1)=true:=by simp;omega
  have f1:((1:Int)==id)=false:=by simp;omega
  have m1:((1:Int) !=id)=true:=by simp;omega
  have e2:(id==2)=false:=by simp;omega
  have n2:(id !=2)=true:=by simp;omega
  have f2:((2:Int)==id)=false:=by simp;omega
  have m2:((2:Int) !=id)=true:=by simp;omega
  have hA:allowB id 5 0=true:=by rw [hi];decide
  clear hi
  by_cases hlb0:0<lb.length
  ·have HR2:=Hm (HRo.out.trans (if_pos ⟨rfl,hlb0⟩))
   clear HRo hA
   go_enter Tryz.func86,Tryz.ntmps86
   go_wp2
   go_ret
   exact ⟨ret_int HR2.out.symm,by exact eX⟩
  have hlb1:lb.length=0:=by omega
  have hlb2: ¬ ((0:Nat)<lb.length):=by omega
  have HR1:=Hm (HRo.out.trans (if_neg (fun h=>hlb2 h.2)))
  clear HRo hlb0 hlb1
  have HR1b:=Hm (HR1.out.trans ((if_neg (by rintro ⟨h,_⟩;revert h;decide)).trans (if_neg (by rw [hA];simp))))
  clear HR1 hA
  have HR3:=Hm (HR1b.out.trans ((if_neg (by simp)).trans (if_neg (by simp))))
  clear HR1b
  by_cases h1:EDA=0
  case neg=>
   have h1' :(EDA !=0)=true:=by simpa using h1
   have HR2:=Hm (HR3.out.trans ((if_neg (by decide)).trans ((if_neg (by rintro ⟨h,_⟩;revert h;decide)).trans (if_pos ⟨by decide,h1⟩))))
   clear h1
   go_enter Tryz.func86,Tryz.ntmps86
   go_wp2_with (first
    |(go_at_call 116;refine (HDA.out _ (by exact eX)).mono ?_;rintro e w6 ⟨rfl,hb6⟩;have hE6:Ext (w.alloc (.cells #[.int .u32 oid, .int .u32 ver, .string nm, .int .u8 id, .slice a2 cols.length cap2] 44)) w6:=(by exact eX);have g6:=((Blk.new w #[.int .u32 oid, .int .u32 ver, .string nm, .int .u8 id, .slice a2 cols.length cap2] 44).ext hE6).cell;clear hb6))
   go_ret
   exact ⟨ret_int HR2.out.symm,by exact eX⟩
  subst h1
  have HR4:=Hm (HR3.out.trans ((if_neg (by decide)).trans ((if_neg (by simp)).trans (if_neg (by simp)))))
  clear HR3
  have HR2:=Hm (HR4.out.trans (if_neg (by simp)))
  clear HR4
  go_enter Tryz.func86,Tryz.ntmps86
  go_wp2_with (first
   |(go_at_call 116;refine (HDA.out _ (by exact eX)).mono ?_;rintro e w6 ⟨rfl,hb6⟩;have hE6:Ext (w.alloc (.cells #[.int .u32 oid, .int .u32 ver, .string nm, .int .u8 id, .slice a2 cols.length cap2] 44)) w6:=(by exact eX);have g6:=((Blk.new w #[.int .u32 oid, .int .u32 ver, .string nm, .int .u8 id, .slice a2 cols.length cap2] 44).ext hE6).cell;clear hb6))
  go_ret
  exact ⟨ret_int HR2.out.symm,by exact eX⟩
 ·have e0:(id==0)=false:=by simp;omega
  have n0:(id !=0)=true:=by simp;omega
  have f0:((0:Int)==id)=false:=by simp;omega
  have m0:((0:Int) !=id)=true:=by simp;omega
  have e1:(id==1)=true:=by simp;omega
  have n1:(id !=1)=false:=by simp;omega
  have f1:((1:Int)==id)=true:=by simp;omega
  have m1:((1:Int) !=id)=false:=by simp;omega
  have e2:(id==2)=false:=by simp;omega
  have n2:(id !=2)=true:=by simp;omega
  have f2:((2:Int)==id)=false:=by simp;omega
  have m2:((2:Int) !=id)=true:=by simp;omega
  have hA:allowB id 5 0=true:=by rw [hi];decide
  clear hi
  by_cases hlb0:0<lb.length
  ·have HR2:=Hm (HRo.out.trans (if_pos ⟨rfl,hlb0⟩))
   clear HRo hA
   go_enter Tryz.func86,Tryz.ntmps86
   go_wp2
   go_ret
   exact ⟨ret_int HR2.out.symm,by exact eX⟩
  have hlb1:lb.length=0:=by omega
  have hlb2: ¬ ((0:Nat)<lb.length):=by omega
  have HR1:=Hm (HRo.out.trans (if_neg (fun h=>hlb2 h.2)))
  clear HRo hlb0 hlb1
  have HR1b:=Hm (HR1.out.trans ((if_neg (by rintro ⟨h,_⟩;revert h;decide)).trans (if_neg (by rw [hA];simp))))
  clear HR1 hA
  have HR3:=Hm (HR1b.out.trans ((if_neg (by simp)).trans (if_neg (by simp))))
  clear HR1b
  by_cases h1:EDA=0
  case neg=>
   have h1' :(EDA !=0)=true:=by simpa using h1
   have HR2:=Hm (HR3.out.trans ((if_neg (by decide)).trans ((if_neg (by rintro ⟨h,_⟩;revert h;decide)).trans (if_pos ⟨by decide,h1⟩))))
   clear h1
   go_enter Tryz.func86,Tryz.ntmps86
   go_wp2_with (first
    |(go_at_call 116;refine (HDA.out _ (by exact eX)).mono ?_;rintro e w6 ⟨rfl,hb6⟩;have hE6:Ext (w.alloc (.cells #[.int .u32 oid, .int .u32 ver, .string nm, .int .u8 id, .slice a2 cols.length cap2] 44)) w6:=(by exact eX);have g6:=((Blk.new w #[.int .u32 oid, .int .u32 ver, .string nm, .int .u8 id, .slice a2 cols.length cap2] 44).ext hE6).cell;clear hb6))
   go_ret
   exact ⟨ret_int HR2.out.symm,by exact eX⟩
  subst h1
  have HR4:=Hm (HR3.out.trans ((if_neg (by decide)).trans ((if_neg (by simp)).trans (if_neg (by simp)))))
  clear HR3
  have HR2:=Hm (HR4.out.trans (if_neg (by simp)))
  clear HR4
  go_enter Tryz.func86,Tryz.ntmps86
  go_wp2_with (first
   |(go_at_call 116;refine (HDA.out _ (by exact eX)).mono ?_;rintro e w6 ⟨rfl,hb6⟩;have hE6:Ext (w.alloc (.cells #[.int .u32 oid, .int .u32 ver, .string nm, .int .u8 id, .slice a2 cols.length cap2] 44)) w6:=(by exact eX);have g6:=((Blk.new w #[.int .u32 oid, .int .u32 ver, .string nm, .int .u8 id, .slice a2 cols.length cap2] 44).ext hE6).cell;clear hb6))
  go_ret
  exact ⟨ret_int HR2.out.symm,by exact eX⟩
 ·have e0:(id==0)=false:=by simp;omega
  have n0:(id !=0)=true:=by simp;omega
  have f0:((0:Int)==id)=false:=by simp;omega
  have m0:((0:Int) !=id)=true:=by simp;omega
  have e1:(id==1)=false:=by simp;omega
  have n1:(id !=1)=true:=by simp;omega
  have f1:((1:Int)==id)=false:=by simp;omega
  have m1:((1:Int) !=id)=true:=by simp;omega
  have e2:(id==2)=true:=by simp;omega
  have n2:(id !=2)=false:=by simp;omega
  have f2:((2:Int)==id)=true:=by simp;omega
  have m2:((2:Int) !=id)=false:=by simp;omega
  have hA:allowB id 5 0=false:=by rw [hi];decide
  clear hi
  have HR2:=Hm (HRo.out.trans (three14 hA))
  clear HRo hA
  by_cases hlb0:0<lb.length
  ·go_enter Tryz.func86,Tryz.ntmps86
   go_wp2
   go_ret
   exact ⟨ret_int HR2.out.symm,by exact eX⟩
  go_enter Tryz.func86,Tryz.ntmps86
  go_wp2
  all_goals
   go_ret
   exact ⟨ret_int HR2.out.symm,by exact eX⟩
 ·have e0:(id==0)=false:=by simp;omega
  have n0:(id !=0)=true:=by simp;omega
  have f0:((0:Int)==id)=false:=by simp;omega
  have m0:((0:Int) !=id)=true:=by simp;omega
  have e1:(id==1)=false:=by simp;omega
  have n1:(id !=1)=true:=by simp;omega
  have f1:((1:Int)==id)=false:=by simp;omega
  have m1:((1:Int) !=id)=true:=by simp;omega
  have e2:(id==2)=false:=by simp;omega
  have n2:(id !=2)=true:=by simp;omega
  have f2:((2:Int)==id)=false:=by simp;omega
  have m2:((2:Int) !=id)=true:=by simp;omega
  have hA:allowB id 5 0=false:=by unfold allowB;simp<;>omega
  clear hi
  have HR2:=Hm (HRo.out.trans (three14 hA))
  clear HRo hA
  by_cases hlb0:0<lb.length
  ·go_enter Tryz.func86,Tryz.ntmps86
   go_wp2
   go_ret
   exact ⟨ret_int HR2.out.symm,by exact eX⟩
  go_enter Tryz.func86,Tryz.ntmps86
  go_wp2
  all_goals
   go_ret
   exact ⟨ret_int HR2.out.symm,by exact eX⟩
 ·have e0:(id==0)=true:=by simp;omega
  have n0:(id !=0)=false:=by simp;omega
  have f0:((0:Int)==id)=true:=by simp;omega
  have m0:((0:Int) !=id)=false:=by simp;omega
  have e1:(id==1)=false:=by simp;omega
  have n1:(id !=1)=true:=by simp;omega
  have f1:((1:Int)==id)=false:=by simp;omega
  have m1:((1:Int) !=id)=true:=by simp;omega
  have e2:(id==2)=false:=by simp;omega
  have n2:(id !=2)=true:=by simp;omega
  have f2:((2:Int)==id)=false:=by simp;omega
  have m2:((2:Int) !=id)=true:=by simp;omega
  have hA:allowB id 5 1=false:=by rw [hi];decide
  clear hi
  have HR2:=Hm (HRo.out.trans (three14 hA))
  clear HRo hA
  go_enter Tryz.func86,Tryz.ntmps86
  go_wp2
  all_goals
   go_ret
   exact ⟨ret_int HR2.out.symm,by exact eX⟩
 ·have e0:(id==0)=false:=by simp;omega
  have n0:(id !=0)=true:=by simp;omega
  have f0:((0:Int)==id)=false:=by simp;omega
  have m0:((0:Int) !=id)=true:=by simp;omega
  have e1:(id==1)=true:=by simp;omega
  have n1:(id !=1)=false:=by simp;omega
  have f1:((1:Int)==id)=true:=by simp;omega
  have m1:((1:Int) !=id)=false:=by simp;omega
  have e2:(id==2)=false:=by simp;omega
  have n2:(id !=2)=true:=by simp;omega
  have f2:((2:Int)==id)=false:=by simp;omega
  have m2:((2:Int) !=id)=true:=by simp;omega
  have hA:allowB id 5 1=true:=by rw [hi];decide
  clear hi
  have HR1:=Hm (HRo.out.trans (if_neg (by rintro ⟨h,_⟩;revert h;decide)))
  clear HRo
  have HR1b:=Hm (HR1.out.trans ((if_neg (by rintro ⟨h,_⟩;revert h;decide)).trans (if_neg (by rw [hA];simp))))
  clear HR1 hA
  by_cases h0:EKB=0
  case neg=>
   have h0' :(EKB !=0)=true:=by simpa using h0
   have HR2:=Hm (HR1b.out.trans (if_pos ⟨rfl,h0⟩))
   clear h0
   go_enter Tryz.func86,Tryz.ntmps86
   go_wp2_with (first
    |(go_at_call 114;refine (HKB.out _ (by exact eX)).mono ?_;rintro e w3 ⟨rfl,hb3⟩;have hE3:Ext (w.alloc (.cells #[.int .u32 oid, .int .u32 ver, .string nm, .int .u8 id, .slice a2 cols.length cap2] 44)) w3:=(by exact eX);have g3:=((Blk.new w #[.int .u32 oid, .int .u32 ver, .string nm, .int .u8 id, .slice a2 cols.length cap2] 44).ext hE3).cell;clear hb3))
   go_ret
   exact ⟨ret_int HR2.out.symm,by exact eX⟩
  subst h0
  have HR3:=Hm (HR1b.out.trans ((if_neg (by simp)).trans (if_neg (by simp))))
  clear HR1b
  by_cases h1:EDA=0
  case neg=>
   have h1' :(EDA !=0)=true:=by simpa using h1
   have HR2:=Hm (HR3.out.trans ((if_neg (by decide)).trans ((if_neg (by rintro ⟨h,_⟩;revert h;decide)).trans (if_pos ⟨by decide,h1⟩))))
   clear h1
   go_enter Tryz.func86,Tryz.ntmps86
   go_wp2_with (first
    |(go_at_call 114;refine (HKB.out _ (by exact eX)).mono ?_;rintro e w3 ⟨rfl,hb3⟩;have hE3:Ext (w.alloc (.cells #[.int .u32 oid, .int .u32 ver, .string nm, .int .u8 id, .slice a2 cols.length cap2] 44)) w3:=(by exact eX);have g3:=((Blk.new w #[.int .u32 oid, .int .u32 ver, .string nm, .int .u8 id, .slice a2 cols.length cap2] 44).ext hE3).cell;clear hb3)
    |(go_at_call 116;refine (HDA.out _ (by exact eX)).mono ?_;rintro e w6 ⟨rfl,hb6⟩;have hE6:Ext (w.alloc (.cells #[.int .u32 oid, .int .u32 ver, .string nm, .int .u8 id, .slice a2 cols.length cap2] 44)) w6:=(by exact eX);have g6:=((Blk.new w #[.int .u32 oid, .int .u32 ver, .string nm, .int .u8 id, .slice a2 cols.length cap2] 44).ext hE6).cell;clear hb6))
   go_ret
   exact ⟨ret_int HR2.out.symm,by exact eX⟩
  subst h1
  have HR4:=Hm (HR3.out.trans ((if_neg (by decide)).trans ((if_neg (by simp)).trans (if_neg (by simp)))))
  clear HR3
  cases BAK
  all_goals
   have HR2:=Hm HR4.out
   go_enter Tryz.func86,Tryz.ntmps86
   go_wp2_with (first
    |(go_at_call 114;refine (HKB.out _ (by exact eX)).mono ?_;rintro e w3 ⟨rfl,hb3⟩;have hE3:Ext (w.alloc (.cells #[.int .u32 oid, .int .u32 ver, .string nm, .int .u8 id, .slice a2 cols.length cap2] 44)) w3:=(by exact eX);have g3:=((Blk.new w #[.int .u32 oid, .int .u32 ver, .string nm, .int .u8 id, .slice a2 cols.length cap2] 44).ext hE3).cell;clear hb3)
    |(go_at_call 116;refine (HDA.out _ (by exact eX)).mono ?_;rintro e w6 ⟨rfl,hb6⟩;have hE6:Ext (w.alloc (.cells #[.int .u32 oid, .int .u32 ver, .string nm, .int .u8 id, .slice a2 cols.length cap2] 44)) w6:=(by exact eX);have g6:=((Blk.new w #[.int .u32 oid, .int .u32 ver, .string nm, .int .u8 id, .slice a2 cols.length cap2] 44).ext hE6).cell;clear hb6)
    |(go_at_call 117;refine (HKO.out _ (by exact eX)).mono ?_;rintro e w7 ⟨g,c,rfl,hr7,hb7⟩;have HR7:=Hm hr7;have hE7:Ext (w.alloc (.cells #[.int .u32 oid, .int .u32 ver, .string nm, .int .u8 id, .slice a2 cols.length cap2] 44)) w7:=(by exact eX);clear hr7 hb7)
    |(go_at_call 84;refine (HAK.out _ _ _ (by exact eX) HR7.out).mono ?_;rintro e w8 ⟨rfl,hb8⟩))
   go_ret
   exact ⟨ret_int (by rw [HR2.out];simp),by exact eX⟩
 ·have e0:(id==0)=false:=by simp;omega
  have n0:(id !=0)=true:=by simp;omega
  have f0:((0:Int)==id)=false:=by simp;omega
  have m0:((0:Int) !=id)=true:=by simp;omega
  have e1:(id==1)=false:=by simp;omega
  have n1:(id !=1)=true:=by simp;omega
  have f1:((1:Int)==id)=false:=by simp;omega
  have m1:((1:Int) !=id)=true:=by simp;omega
  have e2:(id==2)=true:=by simp;omega
  have n2:(id !=2)=false:=by simp;omega
  have f2:((2:Int)==id)=true:=by simp;omega
  have m2:((2:Int) !=id)=false:=by simp;omega
  have hA:allowB id 5 1=false:=by rw [hi];decide
  clear hi
  have HR2:=Hm (HRo.out.trans (three14 hA))
  clear HRo hA
  go_enter Tryz.func86,Tryz.ntmps86
  go_wp2
  all_goals
   go_ret
   exact ⟨ret_int HR2.out.symm,by exact eX⟩
 ·have e0:(id==0)=false:=by simp;omega
  have n0:(id !=0)=true:=by simp;omega
  have f0:((0:Int)==id)=false:=by simp;omega
  have m0:((0:Int) !=id)=true:=by simp;omega
  have e1:(id==1)=false:=by simp;omega
  have n1:(id !=1)=true:=by simp;omega
  have f1:((1:Int)==id)=false:=by simp;omega
  have m1:((1:Int) !=id)=true:=by simp;omega
  have e2:(id==2)=false:=by simp;omega
  have n2:(id !=2)=true:=by simp;omega
  have f2:((2:Int)==id)=false:=by simp;omega
  have m2:((2:Int) !=id)=true:=by simp;omega
  have hA:allowB id 5 1=false:=by unfold allowB;simp<;>omega
  clear hi
  have HR2:=Hm (HRo.out.trans (three14 hA))
  clear HRo hA
  go_enter Tryz.func86,Tryz.ntmps86
  go_wp2
  all_goals
   go_ret
   exact ⟨ret_int HR2.out.symm,by exact eX⟩
 ·have e0:(id==0)=true:=by simp;omega
  have n0:(id !=0)=false:=by simp;omega
  have f0:((0:Int)==id)=true:=by simp;omega
  have m0:((0:Int) !=id)=false:=by simp;omega
  have e1:(id==1)=false:=by simp;omega
  have n1:(id !=1)=true:=by simp;omega
  have f1:((1:Int)==id)=false:=by simp;omega
  have m1:((1:Int) !=id)=true:=by simp;omega
  have e2:(id==2)=false:=by simp;omega
  have n2:(id !=2)=true:=by simp;omega
  have f2:((2:Int)==id)=false:=by simp;omega
  have m2:((2:Int) !=id)=true:=by simp;omega
  have hA:allowB id 5 2=false:=by rw [hi];decide
  clear hi
  have HR2:=Hm (HRo.out.trans (three14 hA))
  clear HRo hA
  go_enter Tryz.func86,Tryz.ntmps86
  go_wp2
  all_goals
   go_ret
   exact ⟨ret_int HR2.out.symm,by exact eX⟩
 ·have e0:(id==0)=false:=by simp;omega
  have n0:(id !=0)=true:=by simp;omega
  have f0:((0:Int)==id)=false:=by simp;omega
  have m0:((0:Int) !=id)=true:=by simp;omega
  have e1:(id==1)=true:=by simp;omega
  have n1:(id !=1)=false:=by simp;omega
  have f1:((1:Int)==id)=true:=by simp;omega
  have m1:((1:Int) !=id)=false:=by simp;omega
  have e2:(id==2)=false:=by simp;omega
  have n2:(id !=2)=true:=by simp;omega
  have f2:((2:Int)==id)=false:=by simp;omega
  have m2:((2:Int) !=id)=true:=by simp;omega
  have hA:allowB id 5 2=false:=by rw [hi];decide
  clear hi
  have HR2:=Hm (HRo.out.trans (three14 hA))
  clear HRo hA
  go_enter Tryz.func86,Tryz.ntmps86
  go_wp2
  all_goals
   go_ret
   exact ⟨ret_int HR2.out.symm,by exact eX⟩
 ·have e0:(id==0)=false:=by simp;omega
  have n0:(id !=0)=true:=by simp;omega
  have f0:((0:Int)==id)=false:=by simp;omega
  have m0:((0:Int) !=id)=true:=by simp;omega
  have e1:(id==1)=false:=by simp;omega
  have n1:(id !=1)=true:=by simp;omega
  have f1:((1:Int)==id)=false:=by simp;omega
  have m1:((1:Int) !=id)=true:=by simp;omega
  have e2:(id==2)=true:=by simp;omega
  have n2:(id !=2)=false:=by simp;omega
  have f2:((2:Int)==id)=true:=by simp;omega
  have m2:((2:Int) !=id)=false:=by simp;omega
  have hA:allowB id 5 2=true:=by rw [hi];decide
  clear hi
  have HR1:=Hm (HRo.out.trans (if_neg (by rintro ⟨h,_⟩;revert h;decide)))
  clear HRo
  have HR1b:=Hm (HR1.out.trans ((if_neg (by rintro ⟨h,_⟩;revert h;decide)).trans (if_neg (by rw [hA];simp))))
  clear HR1 hA
  by_cases h0:EFB=0
  case neg=>
   have h0' :(EFB !=0)=true:=by simpa using h0
   have HR2:=Hm (HR1b.out.trans ((if_neg (by simp)).trans (if_pos ⟨rfl,h0⟩)))
   clear h0
   go_enter Tryz.func86,Tryz.ntmps86
   go_wp2_with (first
    |(go_at_call 115;refine (HFB.out _ (by exact eX)).mono ?_;rintro e w4 ⟨rfl,hb4⟩;have hE4:Ext (w.alloc (.cells #[.int .u32 oid, .int .u32 ver, .string nm, .int .u8 id, .slice a2 cols.length cap2] 44)) w4:=(by exact eX);have g4:=((Blk.new w #[.int .u32 oid, .int .u32 ver, .string nm, .int .u8 id, .slice a2 cols.length cap2] 44).ext hE4).cell;clear hb4))
   go_ret
   exact ⟨ret_int HR2.out.symm,by exact eX⟩
  subst h0
  have HR3:=Hm (HR1b.out.trans ((if_neg (by simp)).trans (if_neg (by simp))))
  clear HR1b
  by_cases h1:EDA=0
  case neg=>
   have h1' :(EDA !=0)=true:=by simpa using h1
   have HR2:=Hm (HR3.out.trans ((if_neg (by decide)).trans ((if_neg (by rintro ⟨h,_⟩;revert h;decide)).trans (if_pos ⟨by decide,h1⟩))))
   clear h1
   go_enter Tryz.func86,Tryz.ntmps86
   go_wp2_with (first
    |(go_at_call 115;refine (HFB.out _ (by exact eX)).mono ?_;rintro e w4 ⟨rfl,hb4⟩;have hE4:Ext (w.alloc (.cells #[.int .u32 oid, .int .u32 ver, .string nm, .int .u8 id, .slice a2 cols.length cap2] 44)) w4:=(by exact eX);have g4:=((Blk.new w #[.int .u32 oid, .int .u32 ver, .string nm, .int .u8 id, .slice a2 cols.length cap2] 44).ext hE4).cell;clear hb4)
    |(go_at_call 116;refine (HDA.out _ (by exact eX)).mono ?_;rintro e w6 ⟨rfl,hb6⟩;have hE6:Ext (w.alloc (.cells #[.int .u32 oid, .int .u32 ver, .string nm, .int .u8 id, .slice a2 cols.length cap2] 44)) w6:=(by exact eX);have g6:=((Blk.new w #[.int .u32 oid, .int .u32 ver, .string nm, .int .u8 id, .slice a2 cols.length cap2] 44).ext hE6).cell;clear hb6))
   go_ret
   exact ⟨ret_int HR2.out.symm,by exact eX⟩
  subst h1
  have HR4:=Hm (HR3.out.trans ((if_neg (by decide)).trans ((if_neg (by simp)).trans (if_neg (by simp)))))
  clear HR3
  have HR2:=Hm (HR4.out.trans (if_neg (by simp)))
  clear HR4
  go_enter Tryz.func86,Tryz.ntmps86
  go_wp2_with (first
   |(go_at_call 115;refine (HFB.out _ (by exact eX)).mono ?_;rintro e w4 ⟨rfl,hb4⟩;have hE4:Ext (w.alloc (.cells #[.int .u32 oid, .int .u32 ver, .string nm, .int .u8 id, .slice a2 cols.length cap2] 44)) w4:=(by exact eX);have g4:=((Blk.new w #[.int .u32 oid, .int .u32 ver, .string nm, .int .u8 id, .slice a2 cols.length cap2] 44).ext hE4).cell;clear hb4)
   |(go_at_call 116;refine (HDA.out _ (by exact eX)).mono ?_;rintro e w6 ⟨rfl,hb6⟩;have hE6:Ext (w.alloc (.cells #[.int .u32 oid, .int .u32 ver, .string nm, .int .u8 id, .slice a2 cols.length cap2] 44)) w6:=(by exact eX);have g6:=((Blk.new w #[.int .u32 oid, .int .u32 ver, .string nm, .int .u8 id, .slice a2 cols.length cap2] 44).ext hE6).cell;clear hb6))
  go_ret
  exact ⟨ret_int HR2.out.symm,by exact eX⟩
 ·have e0:(id==0)=false:=by simp;omega
  have n0:(id !=0)=true:=by simp;omega
  have f0:((0:Int)==id)=false:=by simp;omega
  have m0:((0:Int) !=id)=true:=by simp;omega
  have e1:(id==1)=false:=by simp;omega
  have n1:(id !=1)=true:=by simp;omega
  have f1:((1:Int)==id)=false:=by simp;omega
  have m1:((1:Int) !=id)=true:=by simp;omega
  have e2:(id==2)=false:=by simp;omega
  have n2:(id !=2)=true:=by simp;omega
  have f2:((2:Int)==id)=false:=by simp;omega
  have m2:((2:Int) !=id)=true:=by simp;omega
  have hA:allowB id 5 2=false:=by unfold allowB;simp<;>omega
  clear hi
  have HR2:=Hm (HRo.out.trans (three14 hA))
  clear HRo hA
  go_enter Tryz.func86,Tryz.ntmps86
  go_wp2
  all_goals
   go_ret
   exact ⟨ret_int HR2.out.symm,by exact eX⟩
 ·have e0:(id==0)=true:=by simp;omega
  have n0:(id !=0)=false:=by simp;omega
  have f0:((0:Int)==id)=true:=by simp;omega
  have m0:((0:Int) !=id)=false:=by simp;omega
  have e1:(id==1)=false:=by simp;omega
  have n1:(id !=1)=true:=by simp;omega
  have f1:((1:Int)==id)=false:=by simp;omega
  have m1:((1:Int) !=id)=true:=by simp;omega
  have e2:(id==2)=false:=by simp;omega
  have n2:(id !=2)=true:=by simp;omega
  have f2:((2:Int)==id)=false:=by simp;omega
  have m2:((2:Int) !=id)=true:=by simp;omega
  have hA:allowB id 6 0=false:=by rw [hi];decide
  clear hi
  have HR2:=Hm (HRo.out.trans (three14 hA))
  clear HRo hA
  by_cases hlb0:0<lb.length
  ·go_enter Tryz.func86,Tryz.ntmps86
   go_wp2
   go_ret
   exact ⟨ret_int HR2.out.symm,by exact eX⟩
  by_cases hla0:0<la.length
  ·go_enter Tryz.func86,Tryz.ntmps86
   go_wp2
   go_ret
   exact ⟨ret_int HR2.out.symm,by exact eX⟩
  go_enter Tryz.func86,Tryz.ntmps86
  go_wp2
  all_goals
   go_ret
   exact ⟨ret_int HR2.out.symm,by exact eX⟩
 ·have e0:(id==0)=false:=by simp;omega
  have n0:(id !=0)=true:=by simp;omega
  have f0:((0:Int)==id)=false:=by simp;omega
  have m0:((0:Int) !=id)=true:=by simp;omega
  have e1:(id==1)=true:=by simp;omega
  have n1:(id !=1)=false:=by simp;omega
  have f1:((1:Int)==id)=true:=by simp;omega
  have m1:((1:Int) !=id)=false:=by simp;omega
  have e2:(id==2)=false:=by simp;omega
  have n2:(id !=2)=true:=by simp;omega
  have f2:((2:Int)==id)=false:=by simp;omega
  have m2:((2:Int) !=id)=true:=by simp;omega
  have hA:allowB id 6 0=false:=by rw [hi];decide
  clear hi
  have HR2:=Hm (HRo.out.trans (three14 hA))
  clear HRo hA
  by_cases hlb0:0<lb.length
  ·go_enter Tryz.func86,Tryz.ntmps86
   go_wp2
   go_ret
   exact ⟨ret_int HR2.out.symm,by exact eX⟩
  by_cases hla0:0<la.length
  ·go_enter Tryz.func86,Tryz.ntmps86
   go_wp2
   go_ret
   exact ⟨ret_int HR2.out.symm,by exact eX⟩
  go_enter Tryz.func86,Tryz.ntmps86
  go_wp2
  all_goals
   go_ret
   exact ⟨ret_int HR2.out.symm,by exact eX⟩
 ·have e0:(id==0)=false:=by simp;omega
  have n0:(id !=0)=true:=by simp;omega
  have f0:((0:Int)==id)=false:=by simp;omega
  have m0:((0:Int) !=id)=true:=by simp;omega
  have e1:(id==1)=false:=by simp;omega
  have n1:(id !=1)=true:=by simp;omega
  have f1:((1:Int)==id)=false:=by simp;omega
  have m1:((1:Int) !=id)=true:=by simp;omega
  have e2:(id==2)=true:=by simp;omega
  have n2:(id !=2)=false:=by simp;omega
  have f2:((2:Int)==id)=true:=by simp;omega
  have m2:((2:Int) !=id)=false:=by simp;omega
  have hA:allowB id 6 0=false:=by rw [hi];decide
  clear hi
  have HR2:=Hm (HRo.out.trans (three14 hA))
  clear HRo hA
  by_cases hlb0:0<lb.length
  ·go_enter Tryz.func86,Tryz.ntmps86
   go_wp2
   go_ret
   exact ⟨ret_int HR2.out.symm,by exact eX⟩
  by_cases hla0:0<la.length
  ·go_enter Tryz.func86,Tryz.ntmps86
   go_wp2
   go_ret
   exact ⟨ret_int HR2.out.symm,by exact eX⟩
  go_enter Tryz.func86,Tryz.ntmps86
  go_wp2
  all_goals
   go_ret
   exact ⟨ret_int HR2.out.symm,by exact eX⟩
 ·have e0:(id==0)=false:=by simp;omega
  have n0:(id !=0)=true:=by simp;omega
  have f0:((0:Int)==id)=false:=by simp;omega
  have m0:((0:Int) !=id)=true:=by simp;omega
  have e1:(id==1)=false:=by simp;omega
  have n1:(id !=1)=true:=by simp;omega
  have f1:((1:Int)==id)=false:=by simp;omega
  have m1:((1:Int) !=id)=true:=by simp;omega
  have e2:(id==2)=false:=by simp;omega
  have n2:(id !=2)=true:=by simp;omega
  have f2:((2:Int)==id)=false:=by simp;omega
  have m2:((2:Int) !=id)=true:=by simp;omega
  have hA:allowB id 6 0=false:=by unfold allowB;simp<;>omega
  clear hi
  have HR2:=Hm (HRo.out.trans (three14 hA))
  clear HRo hA
  by_cases hlb0:0<lb.length
  ·go_enter Tryz.func86,Tryz.ntmps86
   go_wp2
   go_ret
   exact ⟨ret_int HR2.out.symm,by exact eX⟩
  by_cases hla0:0<la.length
  ·go_enter Tryz.func86,Tryz.ntmps86
   go_wp2
   go_ret
   exact ⟨ret_int HR2.out.symm,by exact eX⟩
  go_enter Tryz.func86,Tryz.ntmps86
  go_wp2
  all_goals
   go_ret
   exact ⟨ret_int HR2.out.symm,by exact eX⟩
 ·have e0:(id==0)=true:=by simp;omega
  have n0:(id !=0)=false:=by simp;omega
  have f0:((0:Int)==id)=true:=by simp;omega
  have m0:((0:Int) !=id)=false:=by simp;omega
  have e1:(id==1)=false:=by simp;omega
  have n1:(id !=1)=true:=by simp;omega
  have f1:((1:Int)==id)=false:=by simp;omega
  have m1:((1:Int) !=id)=true:=by simp;omega
  have e2:(id==2)=false:=by simp;omega
  have n2:(id !=2)=true:=by simp;omega
  have f2:((2:Int)==id)=false:=by simp;omega
  have m2:((2:Int) !=id)=true:=by simp;omega
  have hA:allowB id 6 1=false:=by rw [hi];decide
  clear hi
  have HR2:=Hm (HRo.out.trans (three14 hA))
  clear HRo hA
  by_cases hla0:0<la.length
  ·go_enter Tryz.func86,Tryz.ntmps86
   go_wp2
   go_ret
   exact ⟨ret_int HR2.out.symm,by exact eX⟩
  go_enter Tryz.func86,Tryz.ntmps86
  go_wp2
  all_goals
   go_ret
   exact ⟨ret_int HR2.out.symm,by exact eX⟩
 ·have e0:(id==0)=false:=by simp;omega
  have n0:(id !=0)=true:=by simp;omega
  have f0:((0:Int)==id)=false:=by simp;omega
  have m0:((0:Int) !=id)=true:=by simp;omega
  have e1:(id==1)=true:=by simp;omega
  have n1:(id !=1)=false:=by simp;omega
  have f1:((1:Int)==id)=true:=by simp;omega
  have m1:((1:Int) !=id)=false:=by simp;omega
  have e2:(id==2)=false:=by simp;omega
  have n2:(id !=2)=true:=by simp;omega
  have f2:((2:Int)==id)=false:=by simp;omega
  have m2:((2:Int) !=id)=true:=by simp;omega
  have hA:allowB id 6 1=true:=by rw [hi];decide
  clear hi
  have HR1:=Hm (HRo.out.trans (if_neg (by rintro ⟨h,_⟩;revert h;decide)))
  clear HRo
  by_cases hla0:0<la.length
  ·have HR2:=Hm (HR1.out.trans (if_pos ⟨rfl,hla0⟩))
   clear HR1 hA
   go_enter Tryz.func86,Tryz.ntmps86
   go_wp2
   go_ret
   exact ⟨ret_int HR2.out.symm,by exact eX⟩
  have HR1b:=Hm (HR1.out.trans ((if_neg (fun h=>hla0 h.2)).trans (if_neg (by rw [hA];simp))))
  clear HR1 hA
  by_cases h0:EKB=0
  case neg=>
   have h0' :(EKB !=0)=true:=by simpa using h0
   have HR2:=Hm (HR1b.out.trans (if_pos ⟨rfl,h0⟩))
   clear h0
   go_enter Tryz.func86,Tryz.ntmps86
   go_wp2_with (first
    |(go_at_call 114;refine (HKB.out _ (by exact eX)).mono ?_;rintro e w3 ⟨rfl,hb3⟩;have hE3:Ext (w.alloc (.cells #[.int .u32 oid, .int .u32 ver, .string nm, .int .u8 id, .slice a2 cols.length cap2] 44)) w3:=(by exact eX);have g3:=((Blk.new w #[.int .u32 oid, .int .u32 ver, .string nm, .int .u8 id, .slice a2 cols.length cap2] 44).ext hE3).cell;clear hb3))
   go_ret
   exact ⟨ret_int HR2.out.symm,by exact eX⟩
  subst h0
  have HR3:=Hm (HR1b.out.trans ((if_neg (by simp)).trans (if_neg (by simp))))
  clear HR1b
  have HR2:=Hm (HR3.out.trans (if_pos rfl))
  clear HR3
  go_enter Tryz.func86,Tryz.ntmps86
  go_wp2_with (first
   |(go_at_call 114;refine (HKB.out _ (by exact eX)).mono ?_;rintro e w3 ⟨rfl,hb3⟩;have hE3:Ext (w.alloc (.cells #[.int .u32 oid, .int .u32 ver, .string nm, .int .u8 id, .slice a2 cols.length cap2] 44)) w3:=(by exact eX);have g3:=((Blk.new w #[.int .u32 oid, .int .u32 ver, .string nm, .int .u8 id, .slice a2 cols.length cap2] 44).ext hE3).cell;clear hb3))
  go_ret
  exact ⟨ret_int HR2.out.symm,by exact eX⟩
 ·have e0:(id==0)=false:=by simp;omega
  have n0:(id !=0)=true:=by simp;omega
  have f0:((0:Int)==id)=false:=by simp;omega
  have m0:((0:Int) !=id)=true:=by simp;omega
  have e1:(id==1)=false:=by simp;omega
  have n1:(id !=1)=true:=by simp;omega
  have f1:((1:Int)==id)=false:=by simp;omega
  have m1:((1:Int) !=id)=true:=by simp;omega
  have e2:(id==2)=true:=by simp;omega
  have n2:(id !=2)=false:=by simp;omega
  have f2:((2:Int)==id)=true:=by simp;omega
  have m2:((2:Int) !=id)=false:=by simp;omega
  have hA:allowB id 6 1=false:=by rw [hi];decide
  clear hi
  have HR2:=Hm (HRo.out.trans (three14 hA))
  clear HRo hA
  by_cases hla0:0<la.length
  ·go_enter Tryz.func86,Tryz.ntmps86
   go_wp2
   go_ret
   exact ⟨ret_int HR2.out.symm,by exact eX⟩
  go_enter Tryz.func86,Tryz.ntmps86
  go_wp2
  all_goals
   go_ret
   exact ⟨ret_int HR2.out.symm,by exact eX⟩
 ·have e0:(id==0)=false:=by simp;omega
  have n0:(id !=0)=true:=by simp;omega
  have f0:((0:Int)==id)=false:=by simp;omega
  have m0:((0:Int) !=id)=true:=by simp;omega
  have e1:(id==1)=false:=by simp;omega
  have n1:(id !=1)=true:=by simp;omega
  have f1:((1:Int)==id)=false:=by simp;omega
  have m1:((1:Int) !=id)=true:=by simp;omega
  have e2:(id==2)=false:=by simp;omega
  have n2:(id !=2)=true:=by simp;omega
  have f2:((2:Int)==id)=false:=by simp;omega
  have m2:((2:Int) !=id)=true:=by simp;omega
  have hA:allowB id 6 1=false:=by unfold allowB;simp<;>omega
  clear hi
  have HR2:=Hm (HRo.out.trans (three14 hA))
  clear HRo hA
  by_cases hla0:0<la.length
  ·go_enter Tryz.func86,Tryz.ntmps86
   go_wp2
   go_ret
   exact ⟨ret_int HR2.out.symm,by exact eX⟩
  go_enter Tryz.func86,Tryz.ntmps86
  go_wp2
  all_goals
   go_ret
   exact ⟨ret_int HR2.out.symm,by exact eX⟩
 ·have e0:(id==0)=true:=by simp;omega
  have n0:(id !=0)=false:=by simp;omega
  have f0:((0:Int)==id)=true:=by simp;omega
  have m0:((0:Int) !=id)=false:=by simp;omega
  have e1:(id==1)=false:=by simp;omega
  have n1:(id !=1)=true:=by simp;omega
  have f1:((1:Int)==id)=false:=by simp;omega
  have m1:((1:Int) !=id)=true:=by simp;omega
  have e2:(id==2)=false:=by simp;omega
  have n2:(id !=2)=true:=by simp;omega
  have f2:((2:Int)==id)=false:=by simp;omega
  have m2:((2:Int) !=id)=true:=by simp;omega
  have hA:allowB id 6 2=false:=by rw [hi];decide
  clear hi
  have HR2:=Hm (HRo.out.trans (three14 hA))
  clear HRo hA
  by_cases hla0:0<la.length
  ·go_enter Tryz.func86,Tryz.ntmps86
   go_wp2
   go_ret
   exact ⟨ret_int HR2.out.symm,by exact eX⟩
  go_enter Tryz.func86,Tryz.ntmps86
  go_wp2
  all_goals
   go_ret
   exact ⟨ret_int HR2.out.symm,by exact eX⟩
 ·have e0:(id==0)=false:=by simp;omega
  have n0:(id !=0)=true:=by simp;omega
  have f0:((0:Int)==id)=false:=by simp;omega
  have m0:((0:Int) !=id)=true:=by simp;omega
  have e1:(id==1)=true:=by simp;omega
  have n1:(id !=1)=false:=by simp;omega
  have f1:((1:Int)==id)=true:=by simp;omega
  have m1:((1:Int) !=id)=false:=by simp;omega
  have e2:(id==2)=false:=by simp;omega
  have n2:(id !=2)=true:=by simp;omega
  have f2:((2:Int)==id)=false:=by simp;omega
  have m2:((2:Int) !=id)=true:=by simp;omega
  have hA:allowB id 6 2=false:=by rw [hi];decide
  clear hi
  have HR2:=Hm (HRo.out.trans (three14 hA))
  clear HRo hA
  by_cases hla0:0<la.length
  ·go_enter Tryz.func86,Tryz.ntmps86
   go_wp2
   go_ret
   exact ⟨ret_int HR2.out.symm,by exact eX⟩
  go_enter Tryz.func86,Tryz.ntmps86
  go_wp2
  all_goals
   go_ret
   exact ⟨ret_int HR2.out.symm,by exact eX⟩
 ·have e0:(id==0)=false:=by simp;omega
  have n0:(id !=0)=true:=by simp;omega
  have f0:((0:Int)==id)=false:=by simp;omega
  have m0:((0:Int) !=id)=true:=by simp;omega
  have e1:(id==1)=false:=by simp;omega
  have n1:(id !=1)=true:=by simp;omega
  have f1:((1:Int)==id)=false:=by simp;omega
  have m1:((1:Int) !=id)=true:=by simp;omega
  have e2:(id==2)=true:=by simp;omega
  have n2:(id !=2)=false:=by simp;omega
  have f2:((2:Int)==id)=true:=by simp;omega
  have m2:((2:Int) !=id)=false:=by simp;omega
  have hA:allowB id 6 2=true:=by rw [hi];decide
  clear hi
  have HR1:=Hm (HRo.out.trans (if_neg (by rintro ⟨h,_⟩;revert h;decide)))
  clear HRo
  by_cases hla0:0<la.length
  ·have HR2:=Hm (HR1.out.trans (if_pos ⟨rfl,hla0⟩))
   clear HR1 hA
   go_enter Tryz.func86,Tryz.ntmps86
   go_wp2
   go_ret
   exact ⟨ret_int HR2.out.symm,by exact eX⟩
  have HR1b:=Hm (HR1.out.trans ((if_neg (fun h=>hla0 h.2)).trans (if_neg (by rw [hA];simp))))
  clear HR1 hA
  by_cases h0:EFB=0
  case neg=>
   have h0' :(EFB !=0)=true:=by simpa using h0
   have HR2:=Hm (HR1b.out.trans ((if_neg (by simp)).trans (if_pos ⟨rfl,h0⟩)))
   clear h0
   go_enter Tryz.func86,Tryz.ntmps86
   go_wp2_with (first
    |(go_at_call 115;refine (HFB.out _ (by exact eX)).mono ?_;rintro e w4 ⟨rfl,hb4⟩;have hE4:Ext (w.alloc (.cells #[.int .u32 oid, .int .u32 ver, .string nm, .int .u8 id, .slice a2 cols.length cap2] 44)) w4:=(by exact eX);have g4:=((Blk.new w #[.int .u32 oid, .int .u32 ver, .string nm, .int .u8 id, .slice a2 cols.length cap2] 44).ext hE4).cell;clear hb4))
   go_ret
   exact ⟨ret_int HR2.out.symm,by exact eX⟩
  subst h0
  have HR3:=Hm (HR1b.out.trans ((if_neg (by simp)).trans (if_neg (by simp))))
  clear HR1b
  have HR2:=Hm (HR3.out.trans (if_pos rfl))
  clear HR3
  go_enter Tryz.func86,Tryz.ntmps86
  go_wp2_with (first
   |(go_at_call 115;refine (HFB.out _ (by exact eX)).mono ?_;rintro e w4 ⟨rfl,hb4⟩;have hE4:Ext (w.alloc (.cells #[.int .u32 oid, .int .u32 ver, .string nm, .int .u8 id, .slice a2 cols.length cap2] 44)) w4:=(by exact eX);have g4:=((Blk.new w #[.int .u32 oid, .int .u32 ver, .string nm, .int .u8 id, .slice a2 cols.length cap2] 44).ext hE4).cell;clear hb4))
  go_ret
  exact ⟨ret_int HR2.out.symm,by exact eX⟩
 ·have e0:(id==0)=false:=by simp;omega
  have n0:(id !=0)=true:=by simp;omega
  have f0:((0:Int)==id)=false:=by simp;omega
  have m0:((0:Int) !=id)=true:=by simp;omega
  have e1:(id==1)=false:=by simp;omega
  have n1:(id !=1)=true:=by simp;omega
  have f1:((1:Int)==id)=false:=by simp;omega
  have m1:((1:Int) !=id)=true:=by simp;omega
  have e2:(id==2)=false:=by simp;omega
  have n2:(id !=2)=true:=by simp;omega
  have f2:((2:Int)==id)=false:=by simp;omega
  have m2:((2:Int) !=id)=true:=by simp;omega
  have hA:allowB id 6 2=false:=by unfold allowB;simp<;>omega
  clear hi
  have HR2:=Hm (HRo.out.trans (three14 hA))
  clear HRo hA
  by_cases hla0:0<la.length
  ·go_enter Tryz.func86,Tryz.ntmps86
   go_wp2
   go_ret
   exact ⟨ret_int HR2.out.symm,by exact eX⟩
  go_enter Tryz.func86,Tryz.ntmps86
  go_wp2
  all_goals
   go_ret
   exact ⟨ret_int HR2.out.symm,by exact eX⟩
end Go.Proofs.YtgmphpccpfaapaaGreatDoor
