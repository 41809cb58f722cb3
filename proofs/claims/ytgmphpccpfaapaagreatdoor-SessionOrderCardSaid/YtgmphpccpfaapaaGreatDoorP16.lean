/-
What is wrong with an event's images: the program's answer, the reference's.
-/
import Derived.Test.YtgmphpccpfaapaaGreatDoorP15
set_option maxRecDepth 100000
set_option maxHeartbeats 16000000
namespace Go.Proofs.YtgmphpccpfaapaaGreatDoor
open Go.RowKit
theorem three14 {p q r:Prop} [Decidable p] [Decidable q] [Decidable r] {X:Int} (h:r):(if p then (14:Int) else if q then 14 else if r then 14 else X)=14:=by
 rw [if_pos h]
 split
 ·rfl
 ·split<;>rfl
def allowB (id kind old:Int):Bool:=if kind=4 then decide (old=0) else if kind=5 then (decide (old=id)||(decide (old=0)&&decide (id=1))) else (decide (old=id)&& !decide (id=0))
noncomputable def imgE (r:Rl) (kind old:Int) (b a:List K):Int:=
 if kind<4∨6<kind then 7
 else if 2<old then 14
 else if old=0∧0<b.length then 14
 else if kind=6∧0<a.length then 14
 else if allowB r.id kind old=false then 14
 else if old=1∧isKeyE b r≠0 then isKeyE b r
 else if old=2∧isFullE b r≠0 then isFullE b r
 else if kind=6 then 0
 else if kind=4∧isFullE a r≠0 then isFullE a r
 else if kind≠4∧keyedE a r≠0 then keyedE a r
 else if old=1∧rowB b (keyOf r.cols a)=true then 13 else 0
theorem allowed_any (id kind old:Int) (w:World) (hk:4≤kind) (hk2:kind≤6):Calls Tryz.prog 124 #[.int .u8 id, .int .u8 kind, .int .u8 old] w fun e w' =>e= .returned (.bool (allowB id kind old))∧w=w' :=by
 have h3:kind=4∨kind=5∨kind=6:=by omega
 rcases h3 with rfl|rfl|rfl
 ·have HR:=Hm (show allowB id 4 old=(old==0) by unfold allowB;rw [if_pos rfl];rfl)
  go_enter Tryz.func124,Tryz.ntmps124
  go_wp2
  go_ret
  exact ⟨ret_bool HR.out.symm,rfl⟩
 ·have HR:=Hm (show allowB id 5 old=((old==id)||((old==0)&&(id==1))) by unfold allowB;rw [if_neg (by decide),if_pos rfl];rfl)
  cases h1:(old==id)<;>cases h2:(old==0)<;>cases h4:(id==1)
  all_goals
   rw [h1,h2,h4] at HR
   go_enter Tryz.func124,Tryz.ntmps124
   go_wp2
   go_ret
   exact ⟨ret_bool (by rw [HR.out];simp),rfl⟩
 ·have HR:=Hm (show allowB id 6 old=((old==id)&& !(id==0)) by unfold allowB;rw [if_neg (by decide),if_neg (by decide)];rfl)
  cases h1:(old==id)<;>cases h2:(id==0)
  all_goals
   rw [h1,h2] at HR
   have h3:(id !=0)= !(id==0):=rfl
   rw [h2] at h3
   simp only [Bool.not_true,Bool.not_false] at h3
   go_enter Tryz.func124,Tryz.ntmps124
   go_wp2
   go_ret
   exact ⟨ret_bool (by rw [HR.out];simp),rfl⟩
theorem imgok_any (oid ver:Int) (nm:ByteArray) (id:Int) (v v2:Value) (w:World):Calls Tryz.prog 125 #[.agg #[.int .u32 oid, .int .u32 ver, .string nm, .int .u8 id,v],v2] w fun e w' =>e= .returned (.int .i64 0)∧Ext w w' :=by
 go_enter Tryz.func125,Tryz.ntmps125
 go_wp2
 go_ret
 exact ⟨rfl,by exact eX⟩
theorem image_any (kind old:Int) (lb la:List K) (ba aa:Option Addr) (bc ac:Nat) (oid ver:Int) (nm:ByteArray) (id:Int) (cols:List Col) (a2:Option Addr) (cap2:Nat) (w:World) (hl2:Sl w (.slice a2 cols.length cap2) 3 (cols.map Col.cells)) (hcap2:cols.length≤cap2) (hlen2:cols.length≤1000) (hb:Sl w (.slice ba lb.length bc) 5 (lb.map K.pc)) (ha:Sl w (.slice aa la.length ac) 5 (la.map K.pc)) (hlb:lb.length≤1000) (hla:la.length≤1000) (hsb:∀c∈lb,c.wk) (hsa:∀c∈la,c.wk) (hs2:∀c∈cols,c.nm.size≤9223372036854775807) (hnm:nm.size≤9223372036854775807) (hid:0≤id) (hold:0≤old):
 Calls Tryz.prog 98 #[.agg #[.int .u32 oid, .int .u32 ver, .string nm, .int .u8 id, .slice a2 cols.length cap2], .int .u8 kind, .int .u8 old, .slice ba lb.length bc, .slice aa la.length ac] w fun e w' =>e= .returned (.int .i64 (imgE (⟨oid,ver,nm,id,cols⟩:Rl) kind old lb la))∧Ext w w' :=by
 have HKB:=Hm (fun W (h:Ext w W)=>isKey_any' oid ver nm id cols a2 cap2 lb ba bc W (hl2.ext h) hcap2 hlen2 (hb.ext h) hlb hsb hs2 hnm)
 have HFB:=Hm (fun W (h:Ext w W)=>isFull_any' oid ver nm id cols a2 cap2 lb ba bc W (hl2.ext h) hcap2 hlen2 (hb.ext h) hlb hsb hs2 hnm)
 have HFA:=Hm (fun W (h:Ext w W)=>isFull_any' oid ver nm id cols a2 cap2 la aa ac W (hl2.ext h) hcap2 hlen2 (ha.ext h) hla hsa hs2 hnm)
 have HDA:=Hm (fun W (h:Ext w W)=>keyedI_any oid ver nm id cols a2 cap2 la aa ac W (hl2.ext h) hcap2 hlen2 (ha.ext h) hla hsa hs2 hnm)
 have HKO:=Hm (fun W (h:Ext w W)=>keyOf_any oid ver nm id cols a2 cap2 la aa ac W (hl2.ext h) hlen2 (ha.ext h) hla)
 have HOK:=Hm (fun W (_:Ext w W)=>imgok_any oid ver nm id (.slice a2 cols.length cap2) (.slice ba lb.length bc) W)
 have HAK:=Hm (fun W g c (h:Ext w W) (hr:RowAt W g (keyOf cols la))=>(alike_any lb (keyOf cols la) ba (some ⟨g,0,none⟩) bc c W (hb.ext h) (hr.sl c) hlb (by rw [keyOf_len];exact hla)))
 rw [keyOf_len] at HAK
 have HR:Hid (imgE (⟨oid,ver,nm,id,cols⟩:Rl) kind old lb la=if kind<4∨6<kind then 7 else if 2<old then 14 else if old=0∧0<lb.length then 14 else if kind=6∧0<la.length then 14 else if allowB id kind old=false then 14
  else if old=1∧isKeyE lb (⟨oid,ver,nm,id,cols⟩:Rl)≠0 then isKeyE lb (⟨oid,ver,nm,id,cols⟩:Rl) else if old=2∧isFullE lb (⟨oid,ver,nm,id,cols⟩:Rl)≠0 then isFullE lb (⟨oid,ver,nm,id,cols⟩:Rl) else if kind=6 then 0 else if kind=4∧isFullE la (⟨oid,ver,nm,id,cols⟩:Rl)≠0 then isFullE la (⟨oid,ver,nm,id,cols⟩:Rl) else if kind≠4∧keyedE la (⟨oid,ver,nm,id,cols⟩:Rl)≠0 then keyedE la (⟨oid,ver,nm,id,cols⟩:Rl) else if old=1∧rowB lb (keyOf cols la)=true then 13 else 0):=Hm rfl
 generalize imgE (⟨oid,ver,nm,id,cols⟩:Rl) kind old lb la=RES at HR⊢
 generalize isKeyE lb (⟨oid,ver,nm,id,cols⟩:Rl)=EKB at HKB HR
 generalize isFullE lb (⟨oid,ver,nm,id,cols⟩:Rl)=EFB at HFB HR
 generalize isFullE la (⟨oid,ver,nm,id,cols⟩:Rl)=EFA at HFA HR
 generalize keyedE la (⟨oid,ver,nm,id,cols⟩:Rl)=EDA at HDA HR
 generalize rowB lb (keyOf cols la)=BAK at HAK HR
 clear hl2 hb ha hsb hsa hs2 hnm
 by_cases hk:kind<4∨6<kind
 ·have HR2:=Hm (HR.out.trans (if_pos hk))
  clear HR
  rcases hk with hk|hk
  all_goals
   (try have hk4:4≤kind:=by omega)
   go_enter Tryz.func98,Tryz.ntmps98
   go_wp2
   go_ret
   exact ⟨ret_int HR2.out.symm,by exact eX⟩
 have hk3:kind=4∨kind=5∨kind=6:=by omega
 have HRk:=Hm (HR.out.trans (if_neg hk))
 clear HR hk
 by_cases ho:2<old
 ·have HR2:=Hm (HRk.out.trans (if_pos ho))
  clear HRk
  rcases hk3 with rfl|rfl|rfl
  all_goals
   go_enter Tryz.func98,Tryz.ntmps98
   go_wp2
   go_ret
   exact ⟨ret_int HR2.out.symm,by exact eX⟩
 have ho3:old=0∨old=1∨old=2:=by omega
 have HRo:=Hm (HRk.out.trans (if_neg ho))
 clear HRk ho hold
 have hi4:id=0∨id=1∨id=2∨2<id:=by omega
 have HAL:=Hm (fun w=>allowed_any id kind old w (by omega) (by omega))
 rcases hk3 with rfl|rfl|rfl<;>rcases ho3 with rfl|rfl|rfl<;>rcases hi4 with hi|hi|hi|hi
 ·have e0:(id==0)=true:=by simp;omega
  have n0:(id !=0)=false:=by simp;omega
  have f0:((0:Int)==id)=true:=by simp;omega
  have m0:((0:Int) !=id)=false:=by simp;omega
  have e1:(id==1)=false:=by simp;omega
  have n1:(id !=1)=true:=by simp;omega
  have f1:((1:Int)==id)=false:=by simp;omega
  have m1:((1:Int) !=id)=true:=by simp;omega
  have e2:(id==2)=false:=by simp;omega
  have n2:(id !=2)=true:=by simp;omega
  have f2:((2:Int)==id)=false:=by simp;omega
  have m2:((2:Int) !=id)=true:=by simp;omega
  have hA:allowB id 4 0=true:=by rw [hi];decide
  clear hi
  rw [hA] at HAL
  by_cases hlb0:0<lb.length
  ·have HR2:=Hm (HRo.out.trans (if_pos ⟨rfl,hlb0⟩))
   clear HRo hA
   go_enter Tryz.func98,Tryz.ntmps98
   go_wp2_with (first
    |(go_at_call 124;refine (HAL.out _).mono ?_;rintro e w1 ⟨rfl,rfl⟩))
   go_ret
   exact ⟨ret_int HR2.out.symm,by exact eX⟩
  have hlb1:lb.length=0:=by omega
  have hlb2: ¬ ((0:Nat)<lb.length):=by omega
  have HR1:=Hm (HRo.out.trans (if_neg (fun h=>hlb2 h.2)))
  clear HRo hlb0 hlb1
  have HR1b:=Hm (HR1.out.trans ((if_neg (by rintro ⟨h,_⟩;revert h;decide)).trans (if_neg (by rw [hA];simp))))
  clear HR1 hA
  have HR3:=Hm (HR1b.out.trans ((if_neg (by simp)).trans (if_neg (by simp))))
  clear HR1b
  by_cases h1:EFA=0
  case neg=>
   have h1' :(EFA !=0)=true:=by simpa using h1
   have HR2:=Hm (HR3.out.trans ((if_neg (by decide)).trans (if_pos ⟨rfl,h1⟩)))
   clear h1
   go_enter Tryz.func98,Tryz.ntmps98
   go_wp2_with (first
    |(go_at_call 124;refine (HAL.out _).mono ?_;rintro e w1 ⟨rfl,rfl⟩)
    |(go_at_call 125;refine (HOK.out _ (by exact eX)).mono ?_;rintro e w2 ⟨rfl,hb2⟩;have hE2:Ext (w.alloc (.cells #[.int .u32 oid, .int .u32 ver, .string nm, .int .u8 id, .slice a2 cols.length cap2] 72)) w2:=(by exact eX);have g2:=((Blk.new w #[.int .u32 oid, .int .u32 ver, .string nm, .int .u8 id, .slice a2 cols.length cap2] 72).ext hE2).cell;clear hb2)
    |(go_at_call 127;refine (HFA.out _ (by exact eX)).mono ?_;rintro e w5 ⟨rfl,hb5⟩;have hE5:Ext (w.alloc (.cells #[.int .u32 oid, .int .u32 ver, .string nm, .int .u8 id, .slice a2 cols.length cap2] 72)) w5:=(by exact eX);have g5:=((Blk.new w #[.int .u32 oid, .int .u32 ver, .string nm, .int .u8 id, .slice a2 cols.length cap2] 72).ext hE5).cell;clear hb5))
   go_ret
   exact ⟨ret_int HR2.out.symm,by exact eX⟩
  subst h1
  have HR4:=Hm (HR3.out.trans ((if_neg (by decide)).trans ((if_neg (by simp)).trans (if_neg (by simp)))))
  clear HR3
  have HR2:=Hm (HR4.out.trans (if_neg (by simp)))
  clear HR4
  go_enter Tryz.func98,Tryz.ntmps98
  go_wp2_with (first
   |(go_at_call 124;refine (HAL.out _).mono ?_;rintro e w1 ⟨rfl,rfl⟩)
   |(go_at_call 125;refine (HOK.out _ (by exact eX)).mono ?_;rintro e w2 ⟨rfl,hb2⟩;have hE2:Ext (w.alloc (.cells #[.int .u32 oid, .int .u32 ver, .string nm, .int .u8 id, .slice a2 cols.length cap2] 72)) w2:=(by exact eX);have g2:=((Blk.new w #[.int .u32 oid, .int .u32 ver, .string nm, .int .u8 id, .slice a2 cols.length cap2] 72).ext hE2).cell;clear hb2)
   |(go_at_call 127;refine (HFA.out _ (by exact eX)).mono ?_;rintro e w5 ⟨rfl,hb5⟩;have hE5:Ext (w.alloc (.cells #[.int .u32 oid, .int .u32 ver, .string nm, .int .u8 id, .slice a2 cols.length cap2] 72)) w5:=(by exact eX);have g5:=((Blk.new w #[.int .u32 oid, .int .u32 ver, .string nm, .int .u8 id, .slice a2 cols.length cap2] 72).ext hE5).cell;clear hb5))
  go_ret
  exact ⟨ret_int HR2.out.symm,by exact eX⟩
 ·have e0:(id==0)=false:=by simp;omega
  have n0:(id !=0)=true:=by simp;omega
  have f0:((0:Int)==id)=false:=by simp;omega
  have m0:((0:Int) !=id)=true:=by simp;omega
  have e1:(id==1)=true:=by simp;omega
  have n1:(id !=1)=false:=by simp;omega
  have f1:((1:Int)==id)=true:=by simp;omega
  have m1:((1:Int) !=id)=false:=by simp;omega
  have e2:(id==2)=false:=by simp;omega
  have n2:(id !=2)=true:=by simp;omega
  have f2:((2:Int)==id)=false:=by simp;omega
  have m2:((2:Int) !=id)=true:=by simp;omega
  have hA:allowB id 4 0=true:=by rw [hi];decide
  clear hi
  rw [hA] at HAL
  by_cases hlb0:0<lb.length
  ·have HR2:=Hm (HRo.out.trans (if_pos ⟨rfl,hlb0⟩))
   clear HRo hA
   go_enter Tryz.func98,Tryz.ntmps98
   go_wp2_with (first
    |(go_at_call 124;refine (HAL.out _).mono ?_;rintro e w1 ⟨rfl,rfl⟩))
   go_ret
   exact ⟨ret_int HR2.out.symm,by exact eX⟩
  have hlb1:lb.length=0:=by omega
  have hlb2: ¬ ((0:Nat)<lb.length):=by omega
  have HR1:=Hm (HRo.out.trans (if_neg (fun h=>hlb2 h.2)))
  clear HRo hlb0 hlb1
  have HR1b:=Hm (HR1.out.trans ((if_neg (by rintro ⟨h,_⟩;revert h;decide)).trans (if_neg (by rw [hA];simp))))
  clear HR1 hA
  have HR3:=Hm (HR1b.out.trans ((if_neg (by simp)).trans (if_neg (by simp))))
  clear HR1b
  by_cases h1:EFA=0
  case neg=>
   have h1' :(EFA !=0)=true:=by simpa using h1
   have HR2:=Hm (HR3.out.trans ((if_neg (by decide)).trans (if_pos ⟨rfl,h1⟩)))
   clear h1
   go_enter Tryz.func98,Tryz.ntmps98
   go_wp2_with (first
    |(go_at_call 124;refine (HAL.out _).mono ?_;rintro e w1 ⟨rfl,rfl⟩)
    |(go_at_call 125;refine (HOK.out _ (by exact eX)).mono ?_;rintro e w2 ⟨rfl,hb2⟩;have hE2:Ext (w.alloc (.cells #[.int .u32 oid, .int .u32 ver, .string nm, .int .u8 id, .slice a2 cols.length cap2] 72)) w2:=(by exact eX);have g2:=((Blk.new w #[.int .u32 oid, .int .u32 ver, .string nm, .int .u8 id, .slice a2 cols.length cap2] 72).ext hE2).cell;clear hb2)
    |(go_at_call 127;refine (HFA.out _ (by exact eX)).mono ?_;rintro e w5 ⟨rfl,hb5⟩;have hE5:Ext (w.alloc (.cells #[.int .u32 oid, .int .u32 ver, .string nm, .int .u8 id, .slice a2 cols.length cap2] 72)) w5:=(by exact eX);have g5:=((Blk.new w #[.int .u32 oid, .int .u32 ver, .string nm, .int .u8 id, .slice a2 cols.length cap2] 72).ext hE5).cell;clear hb5))
   go_ret
   exact ⟨ret_int HR2.out.symm,by exact eX⟩
  subst h1
  have HR4:=Hm (HR3.out.trans ((if_neg (by decide)).trans ((if_neg (by simp)).trans (if_neg (by simp)))))
  clear HR3
  have HR2:=Hm (HR4.out.trans (if_neg (by simp)))
  clear HR4
  go_enter Tryz.func98,Tryz.ntmps98
  go_wp2_with (first
   |(go_at_call 124;refine (HAL.out _).mono ?_;rintro e w1 ⟨rfl,rfl⟩)
   |(go_at_call 125;refine (HOK.out _ (by exact eX)).mono ?_;rintro e w2 ⟨rfl,hb2⟩;have hE2:Ext (w.alloc (.cells #[.int .u32 oid, .int .u32 ver, .string nm, .int .u8 id, .slice a2 cols.length cap2] 72)) w2:=(by exact eX);have g2:=((Blk.new w #[.int .u32 oid, .int .u32 ver, .string nm, .int .u8 id, .slice a2 cols.length cap2] 72).ext hE2).cell;clear hb2)
   |(go_at_call 127;refine (HFA.out _ (by exact eX)).mono ?_;rintro e w5 ⟨rfl,hb5⟩;have hE5:Ext (w.alloc (.cells #[.int .u32 oid, .int .u32 ver, .string nm, .int .u8 id, .slice a2 cols.length cap2] 72)) w5:=(by exact eX);have g5:=((Blk.new w #[.int .u32 oid, .int .u32 ver, .string nm, .int .u8 id, .slice a2 cols.length cap2] 72).ext hE5).cell;clear hb5))
  go_ret
  exact ⟨ret_int HR2.out.symm,by exact eX⟩
 ·have e0:(id==0)=false:=by simp;omega
  have n0:(id !=0)=true:=by simp;omega
  have f0:((0:Int)==id)=false:=by simp;omega
  have m0:((0:Int) !=id)=true:=by simp;omega
  have e1:(id==1)=false:=by simp;omega
  have n1:(id !=1)=true:=by simp;omega
  have f1:((1:Int)==id)=false:=by simp;omega
  have m1:((1:Int) !=id)=true:=by simp;omega
  have e2:(id==2)=true:=by simp;omega
  have n2:(id !=2)=false:=by simp;omega
  have f2:((2:Int)==id)=true:=by simp;omega
  have m2:((2:Int) !=id)=false:=by simp;omega
  have hA:allowB id 4 0=true:=by rw [hi];decide
  clear hi
  rw [hA] at HAL
  by_cases hlb0:0<lb.length
  ·have HR2:=Hm (HRo.out.trans (if_pos ⟨rfl,hlb0⟩))
   clear HRo hA
   go_enter Tryz.func98,Tryz.ntmps98
   go_wp2_with (first
    |(go_at_call 124;refine (HAL.out _).mono ?_;rintro e w1 ⟨rfl,rfl⟩))
   go_ret
   exact ⟨ret_int HR2.out.symm,by exact eX⟩
  have hlb1:lb.length=0:=by omega
  have hlb2: ¬ ((0:Nat)<lb.length):=by omega
  have HR1:=Hm (HRo.out.trans (if_neg (fun h=>hlb2 h.2)))
  clear HRo hlb0 hlb1
  have HR1b:=Hm (HR1.out.trans ((if_neg (by rintro ⟨h,_⟩;revert h;decide)).trans (if_neg (by rw [hA];simp))))
  clear HR1 hA
  have HR3:=Hm (HR1b.out.trans ((if_neg (by simp)).trans (if_neg (by simp))))
  clear HR1b
  by_cases h1:EFA=0
  case neg=>
   have h1' :(EFA !=0)=true:=by simpa using h1
   have HR2:=Hm (HR3.out.trans ((if_neg (by decide)).trans (if_pos ⟨rfl,h1⟩)))
   clear h1
   go_enter Tryz.func98,Tryz.ntmps98
   go_wp2_with (first
    |(go_at_call 124;refine (HAL.out _).mono ?_;rintro e w1 ⟨rfl,rfl⟩)
    |(go_at_call 125;refine (HOK.out _ (by exact eX)).mono ?_;rintro e w2 ⟨rfl,hb2⟩;have hE2:Ext (w.alloc (.cells #[.int .u32 oid, .int .u32 ver, .string nm, .int .u8 id, .slice a2 cols.length cap2] 72)) w2:=(by exact eX);have g2:=((Blk.new w #[.int .u32 oid, .int .u32 ver, .string nm, .int .u8 id, .slice a2 cols.length cap2] 72).ext hE2).cell;clear hb2)
    |(go_at_call 127;refine (HFA.out _ (by exact eX)).mono ?_;rintro e w5 ⟨rfl,hb5⟩;have hE5:Ext (w.alloc (.cells #[.int .u32 oid, .int .u32 ver, .string nm, .int .u8 id, .slice a2 cols.length cap2] 72)) w5:=(by exact eX);have g5:=((Blk.new w #[.int .u32 oid, .int .u32 ver, .string nm, .int .u8 id, .slice a2 cols.length cap2] 72).ext hE5).cell;clear hb5))
   go_ret
   exact ⟨ret_int HR2.out.symm,by exact eX⟩
  subst h1
  have HR4:=Hm (HR3.out.trans ((if_neg (by decide)).trans ((if_neg (by simp)).trans (if_neg (by simp)))))
  clear HR3
  have HR2:=Hm (HR4.out.trans (if_neg (by simp)))
  clear HR4
  go_enter Tryz.func98,Tryz.ntmps98
  go_wp2_with (first
   |(go_at_call 124;refine (HAL.out _).mono ?_;rintro e w1 ⟨rfl,rfl⟩)
   |(go_at_call 125;refine (HOK.out _ (by exact eX)).mono ?_;rintro e w2 ⟨rfl,hb2⟩;have hE2:Ext (w.alloc (.cells #[.int .u32 oid, .int .u32 ver, .string nm, .int .u8 id, .slice a2 cols.length cap2] 72)) w2:=(by exact eX);have g2:=((Blk.new w #[.int .u32 oid, .int .u32 ver, .string nm, .int .u8 id, .slice a2 cols.length cap2] 72).ext hE2).cell;clear hb2)
   |(go_at_call 127;refine (HFA.out _ (by exact eX)).mono ?_;rintro e w5 ⟨rfl,hb5⟩;have hE5:Ext (w.alloc (.cells #[.int .u32 oid, .int .u32 ver, .string nm, .int .u8 id, .slice a2 cols.length cap2] 72)) w5:=(by exact eX);have g5:=((Blk.new w #[.int .u32 oid, .int .u32 ver, .string nm, .int .u8 id, .slice a2 cols.length cap2] 72).ext hE5).cell;clear hb5))
  go_ret
  exact ⟨ret_int HR2.out.symm,by exact eX⟩
 ·have e0:(id==0)=false:=by simp;omega
  have n0:(id !=0)=true:=by simp;omega
  have f0:((0:Int)==id)=false:=by simp;omega
  have m0:((0:Int) !=id)=true:=by simp;omega
  have e1:(id==1)=false:=by simp;omega
  have n1:(id !=1)=true:=by simp;omega
  have f1:((1:Int)==id)=false:=by simp;omega
  have m1:((1:Int) !=id)=true:=by simp;omega
  have e2:(id==2)=false:=by simp;omega
  have n2:(id !=2)=true:=by simp;omega
  have f2:((2:Int)==id)=false:=by simp;omega
  have m2:((2:Int) !=id)=true:=by simp;omega
  have hA:allowB id 4 0=true:=by unfold allowB;simp<;>omega
  clear hi
  rw [hA] at HAL
  by_cases hlb0:0<lb.length
  ·have HR2:=Hm (HRo.out.trans (if_pos ⟨rfl,hlb0⟩))
   clear HRo hA
   go_enter Tryz.func98,Tryz.ntmps98
   go_wp2_with (first
    |(go_at_call 124;refine (HAL.out _).mono ?_;rintro e w1 ⟨rfl,rfl⟩))
   go_ret
   exact ⟨ret_int HR2.out.symm,by exact eX⟩
  have hlb1:lb.length=0:=by omega
  have hlb2: ¬ ((0:Nat)<lb.length):=by omega
  have HR1:=Hm (HRo.out.trans (if_neg (fun h=>hlb2 h.2)))
  clear HRo hlb0 hlb1
  have HR1b:=Hm (HR1.out.trans ((if_neg (by rintro ⟨h,_⟩;revert h;decide)).trans (if_neg (by rw [hA];simp))))
  clear HR1 hA
  have HR3:=Hm (HR1b.out.trans ((if_neg (by simp)).trans (if_neg (by simp))))
  clear HR1b
  by_cases h1:EFA=0
  case neg=>
   have h1' :(EFA !=0)=true:=by simpa using h1
   have HR2:=Hm (HR3.out.trans ((if_neg (by decide)).trans (if_pos ⟨rfl,h1⟩)))
   clear h1
   go_enter Tryz.func98,Tryz.ntmps98
   go_wp2_with (first
    |(go_at_call 124;refine (HAL.out _).mono ?_;rintro e w1 ⟨rfl,rfl⟩)
    |(go_at_call 125;refine (HOK.out _ (by exact eX)).mono ?_;rintro e w2 ⟨rfl,hb2⟩;have hE2:Ext (w.alloc (.cells #[.int .u32 oid, .int .u32 ver, .string nm, .int .u8 id, .slice a2 cols.length cap2] 72)) w2:=(by exact eX);have g2:=((Blk.new w #[.int .u32 oid, .int .u32 ver, .string nm, .int .u8 id, .slice a2 cols.length cap2] 72).ext hE2).cell;clear hb2)
    |(go_at_call 127;refine (HFA.out _ (by exact eX)).mono ?_;rintro e w5 ⟨rfl,hb5⟩;have hE5:Ext (w.alloc (.cells #[.int .u32 oid, .int .u32 ver, .string nm, .int .u8 id, .slice a2 cols.length cap2] 72)) w5:=(by exact eX);have g5:=((Blk.new w #[.int .u32 oid, .int .u32 ver, .string nm, .int .u8 id, .slice a2 cols.length cap2] 72).ext hE5).cell;clear hb5))
   go_ret
   exact ⟨ret_int HR2.out.symm,by exact eX⟩
  subst h1
  have HR4:=Hm (HR3.out.trans ((if_neg (by decide)).trans ((if_neg (by simp)).trans (if_neg (by simp)))))
  clear HR3
  have HR2:=Hm (HR4.out.trans (if_neg (by simp)))
  clear HR4
  go_enter Tryz.func98,Tryz.ntmps98
  go_wp2_with (first
   |(go_at_call 124;refine (HAL.out _).mono ?_;rintro e w1 ⟨rfl,rfl⟩)
   |(go_at_call 125;refine (HOK.out _ (by exact eX)).mono ?_;rintro e w2 ⟨rfl,hb2⟩;have hE2:Ext (w.alloc (.cells #[.int .u32 oid, .int .u32 ver, .string nm, .int .u8 id, .slice a2 cols.length cap2] 72)) w2:=(by exact eX);have g2:=((Blk.new w #[.int .u32 oid, .int .u32 ver, .string nm, .int .u8 id, .slice a2 cols.length cap2] 72).ext hE2).cell;clear hb2)
   |(go_at_call 127;refine (HFA.out _ (by exact eX)).mono ?_;rintro e w5 ⟨rfl,hb5⟩;have hE5:Ext (w.alloc (.cells #[.int .u32 oid, .int .u32 ver, .string nm, .int .u8 id, .slice a2 cols.length cap2] 72)) w5:=(by exact eX);have g5:=((Blk.new w #[.int .u32 oid, .int .u32 ver, .string nm, .int .u8 id, .slice a2 cols.length cap2] 72).ext hE5).cell;clear hb5))
  go_ret
  exact ⟨ret_int HR2.out.symm,by exact eX⟩
 ·have e0:(id==0)=true:=by simp;omega
  have n0:(id !=0)=false:=by simp;omega
  have f0:((0:Int)==id)=true:=by simp;omega
  have m0:((0:Int) !=id)=false:=by simp;omega
  have e1:(id==1)=false:=by simp;omega
  have n1:(id !=1)=true:=by simp;omega
  have f1:((1:Int)==id)=false:=by simp;omega
  have m1:((1:Int) !=id)=true:=by simp;omega
  have e2:(id==2)=false:=by simp;omega
  have n2:(id !=2)=true:=by simp;omega
  have f2:((2:Int)==id)=false:=by simp;omega
  have m2:((2:Int) !=id)=true:=by simp;omega
  have hA:allowB id 4 1=false:=by rw [hi];decide
  clear hi
  rw [hA] at HAL
  have HR2:=Hm (HRo.out.trans (three14 hA))
  clear HRo hA
  go_enter Tryz.func98,Tryz.ntmps98
  go_wp2_with (first
   |(go_at_call 124;refine (HAL.out _).mono ?_;rintro e w1 ⟨rfl,rfl⟩))
  all_goals
   go_ret
   exact ⟨ret_int HR2.out.symm,by exact eX⟩
 ·have e0:(id==0)=false:=by simp;omega
  have n0:(id !=0)=true:=by simp;omega
  have f0:((0:Int)==id)=false:=by simp;omega
  have m0:((0:Int) !=id)=true:=by simp;omega
  have e1:(id==1)=true:=by simp;omega
  have n1:(id !=1)=false:=by simp;omega
  have f1:((1:Int)==id)=true:=by simp;omega
  have m1:((1:Int) !=id)=false:=by simp;omega
  have e2:(id==2)=false:=by simp;omega
  have n2:(id !=2)=true:=by simp;omega
  have f2:((2:Int)==id)=false:=by simp;omega
  have m2:((2:Int) !=id)=true:=by simp;omega
  have hA:allowB id 4 1=false:=by rw [hi];decide
  clear hi
  rw [hA] at HAL
  have HR2:=Hm (HRo.out.trans (three14 hA))
  clear HRo hA
  go_enter Tryz.func98,Tryz.ntmps98
  go_wp2_with (first
   |(go_at_call 124;refine (HAL.out _).mono ?_;rintro e w1 ⟨rfl,rfl⟩))
  all_goals
   go_ret
   exact ⟨ret_int HR2.out.symm,by exact eX⟩
 ·have e0:(id==0)=false:=by simp;omega
  have n0:(id !=0)=true:=by simp;omega
  have f0:((0:Int)==id)=false:=by simp;omega
  have m0:((0:Int) !=id)=true:=by simp;omega
  have e1:(id==1)=false:=by simp;omega
  have n1:(id !=1)=true:=by simp;omega
  have f1:((1:Int)==id)=false:=by simp;omega
  have m1:((1:Int) !=id)=true:=by simp;omega
  have e2:(id==2)=true:=by simp;omega
  have n2:(id !=2)=false:=by simp;omega
  have f2:((2:Int)==id)=true:=by simp;omega
  have m2:((2:Int) !=id)=false:=by simp;omega
  have hA:allowB id 4 1=false:=by rw [hi];decide
  clear hi
  rw [hA] at HAL
  have HR2:=Hm (HRo.out.trans (three14 hA))
  clear HRo hA
  go_enter Tryz.func98,Tryz.ntmps98
  go_wp2_with (first
   |(go_at_call 124;refine (HAL.out _).mono ?_;rintro e w1 ⟨rfl,rfl⟩))
  all_goals
   go_ret
   exact ⟨ret_int HR2.out.symm,by exact eX⟩
 ·have e0:(id==0)=false:=by simp;omega
  have n0:(id !=0)=true:=by simp;omega
  have f0:((0:Int)==id)=false:=by simp;omega
  have m0:((0:Int) !=id)=true:=by simp;omega
  have e1:(id==1)=false:=by simp;omega
  have n1:(id !=1)=true:=by simp;omega
  have f1:((1:Int)==id)=false:=by simp;omega
  have m1:((1:Int) !=id)=true:=by simp;omega
  have e2:(id==2)=false:=by simp;omega
  have n2:(id !=2)=true:=by simp;omega
  have f2:((2:Int)==id)=false:=by simp;omega
  have m2:((2:Int) !=id)=true:=by simp;omega
  have hA:allowB id 4 1=false:=by unfold allowB;simp<;>omega
  clear hi
  rw [hA] at HAL
  have HR2:=Hm (HRo.out.trans (three14 hA))
  clear HRo hA
  go_enter Tryz.func98,Tryz.ntmps98
  go_wp2_with (first
   |(go_at_call 124;refine (HAL.out _).mono ?_;rintro e w1 ⟨rfl,rfl⟩))
  all_goals
   go_ret
   exact ⟨ret_int HR2.out.symm,by exact eX⟩
 ·have e0:(id==0)=true:=by simp;omega
  have n0:(id !=0)=false:=by simp;omega
  have f0:((0:Int)==id)=true:=by simp;omega
  have m0:((0:Int) !=id)=false:=by simp;omega
  have e1:(id==1)=false:=by simp;omega
  have n1:(id !=1)=true:=by simp;omega
  have f1:((1:Int)==id)=false:=by simp;omega
  have m1:((1:Int) !=id)=true:=by simp;omega
  have e2:(id==2)=false:=by simp;omega
  have n2:(id !=2)=true:=by simp;omega
  have f2:((2:Int)==id)=false:=by simp;omega
  have m2:((2:Int) !=id)=true:=by simp;omega
  have hA:allowB id 4 2=false:=by rw [hi];decide
  clear hi
  rw [hA] at HAL
  have HR2:=Hm (HRo.out.trans (three14 hA))
  clear HRo hA
  go_enter Tryz.func98,Tryz.ntmps98
  go_wp2_with (first
   |(go_at_call 124;refine (HAL.out _).mono ?_;rintro e w1 ⟨rfl,rfl⟩))
  all_goals
   go_ret
   exact ⟨ret_int HR2.out.symm,by exact eX⟩
 ·have e0:(id==0)=false:=by simp;omega
  have n0:(id !=0)=true:=by simp;omega
  have f0:((0:Int)==id)=false:=by simp;omega
  have m0:((0:Int) !=id)=true:=by simp;omega
  have e1:(id==1)=true:=by simp;omega
  have n1:(id !=1)=false:=by simp;omega
  have f1:((1:Int)==id)=true:=by simp;omega
  have m1:((1:Int) !=id)=false:=by simp;omega
  have e2:(id==2)=false:=by simp;omega
  have n2:(id !=2)=true:=by simp;omega
  have f2:((2:Int)==id)=false:=by simp;omega
  have m2:((2:Int) !=id)=true:=by simp;omega
  have hA:allowB id 4 2=false:=by rw [hi];decide
  clear hi
  rw [hA] at HAL
  have HR2:=Hm (HRo.out.trans (three14 hA))
  clear HRo hA
  go_enter Tryz.func98,Tryz.ntmps98
  go_wp2_with (first
   |(go_at_call 124;refine (HAL.out _).mono ?_;rintro e w1 ⟨rfl,rfl⟩))
  all_goals
   go_ret
   exact ⟨ret_int HR2.out.symm,by exact eX⟩
 ·have e0:(id==0)=false:=by simp;omega
  have n0:(id !=0)=true:=by simp;omega
  have f0:((0:Int)==id)=false:=by simp;omega
  have m0:((0:Int) !=id)=true:=by simp;omega
  have e1:(id==1)=false:=by simp;omega
  have n1:(id !=1)=true:=by simp;omega
  have f1:((1:Int)==id)=false:=by simp;omega
  have m1:((1:Int) !=id)=true:=by simp;omega
  have e2:(id==2)=true:=by simp;omega
  have n2:(id !=2)=false:=by simp;omega
  have f2:((2:Int)==id)=true:=by simp;omega
  have m2:((2:Int) !=id)=false:=by simp;omega
  have hA:allowB id 4 2=false:=by rw [hi];decide
  clear hi
  rw [hA] at HAL
  have HR2:=Hm (HRo.out.trans (three14 hA))
  clear HRo hA
  go_enter Tryz.func98,Tryz.ntmps98
  go_wp2_with (first
   |(go_at_call 124;refine (HAL.out _).mono ?_;rintro e w1 ⟨rfl,rfl⟩))
  all_goals
   go_ret
   exact ⟨ret_int HR2.out.symm,by exact eX⟩
 ·have e0:(id==0)=false:=by simp;omega
  have n0:(id !=0)=true:=by simp;omega
  have f0:((0:Int)==id)=false:=by simp;omega
  have m0:((0:Int) !=id)=true:=by simp;omega
  have e1:(id==1)=false:=by simp;omega
  have n1:(id !=1)=true:=by simp;omega
  have f1:((1:Int)==id)=false:=by simp;omega
  have m1:((1:Int) !=id)=true:=by simp;omega
  have e2:(id==2)=false:=by simp;omega
  have n2:(id !=2)=true:=by simp;omega
  have f2:((2:Int)==id)=false:=by simp;omega
  have m2:((2:Int) !=id)=true:=by simp;omega
  have hA:allowB id 4 2=false:=by unfold allowB;simp<;>omega
  clear hi
  rw [hA] at HAL
  have HR2:=Hm (HRo.out.trans (three14 hA))
  clear HRo hA
  go_enter Tryz.func98,Tryz.ntmps98
  go_wp2_with (first
   |(go_at_call 124;refine (HAL.out _).mono ?_;rintro e w1 ⟨rfl,rfl⟩))
  all_goals
   go_ret
   exact ⟨ret_int HR2.out.symm,by exact eX⟩
 ·have e0:(id==0)=true:=by simp;omega
  have n0:(id !=0)=false:=by simp;omega
  have f0:((0:Int)==id)=true:=by simp;omega
  have m0:((0:Int) !=id)=false:=by simp;omega
  have e1:(id==1)=false:=by simp;omega
  have n1:(id !=1)=true:=by simp;omega
  have f1:((1:Int)==id)=false:=by simp;omega
  have m1:((1:Int) !=id)=true:=by simp;omega
  have e2:(id==2)=false:=by simp;omega
  have n2:(id !=2)=true:=by simp;omega
  have f2:((2:Int)==id)=false:=by simp;omega
  have m2:((2:Int) !=id)=true:=by simp;omega
  have hA:allowB id 5 0=true:=by rw [hi];decide
  clear hi
  rw [hA] at HAL
  by_cases hlb0:0<lb.length
  ·have HR2:=Hm (HRo.out.trans (if_pos ⟨rfl,hlb0⟩))
   clear HRo hA
   go_enter Tryz.func98,Tryz.ntmps98
   go_wp2_with (first
    |(go_at_call 124;refine (HAL.out _).mono ?_;rintro e w1 ⟨rfl,rfl⟩))
   go_ret
   exact ⟨ret_int HR2.out.symm,by exact eX⟩
  have hlb1:lb.length=0:=by omega
  have hlb2: ¬ ((0:Nat)<lb.length):=by omega
  have HR1:=Hm (HRo.out.trans (if_neg (fun h=>hlb2 h.2)))
  clear HRo hlb0 hlb1
  have HR1b:=Hm (HR1.out.trans ((if_neg (by rintro ⟨h,_⟩;revert h;decide)).trans (if_neg (by rw [hA];simp))))
  clear HR1 hA
  have HR3:=Hm (HR1b.out.trans ((if_neg (by simp)).trans (if_neg (by simp))))
  clear HR1b
  by_cases h1:EDA=0
  case neg=>
   have h1' :(EDA !=0)=true:=by simpa using h1
   have HR2:=Hm (HR3.out.trans ((if_neg (by decide)).trans ((if_neg (by rintro ⟨h,_⟩;revert h;decide)).trans (if_pos ⟨by decide,h1⟩))))
   clear h1
   go_enter Tryz.func98,Tryz.ntmps98
   go_wp2_with (first
    |(go_at_call 124;refine (HAL.out _).mono ?_;rintro e w1 ⟨rfl,rfl⟩)
    |(go_at_call 125;refine (HOK.out _ (by exact eX)).mono ?_;rintro e w2 ⟨rfl,hb2⟩;have hE2:Ext (w.alloc (.cells #[.int .u32 oid, .int .u32 ver, .string nm, .int .u8 id, .slice a2 cols.length cap2] 72)) w2:=(by exact eX);have g2:=((Blk.new w #[.int .u32 oid, .int .u32 ver, .string nm, .int .u8 id, .slice a2 cols.length cap2] 72).ext hE2).cell;clear hb2)
    |(go_at_call 128;refine (HDA.out _ (by exact eX)).mono ?_;rintro e w6 ⟨rfl,hb6⟩;have hE6:Ext (w.alloc (.cells #[.int .u32 oid, .int .u32 ver, .string nm, .int .u8 id, .slice a2 cols.length cap2] 72)) w6:=(by exact eX);have g6:=((Blk.new w #[.int .u32 oid, .int .u32 ver, .string nm, .int .u8 id, .slice a2 cols.length cap2] 72).ext hE6).cell;clear hb6))
   go_ret
   exact ⟨ret_int HR2.out.symm,by exact eX⟩
  subst h1
  have HR4:=Hm (HR3.out.trans ((if_neg (by decide)).trans ((if_neg (by simp)).trans (if_neg (by simp)))))
  clear HR3
  have HR2:=Hm (HR4.out.trans (if_neg (by simp)))
  clear HR4
  go_enter Tryz.func98,Tryz.ntmps98
  go_wp2_with (first
   |(go_at_call 124;refine (HAL.out _).mono ?_;rintro e w1 ⟨rfl,rfl⟩)
   |(go_at_call 125;refine (HOK.out _ (by exact eX)).mono ?_;rintro e w2 ⟨rfl,hb2⟩;have hE2:Ext (w.alloc (.cells #[.int .u32 oid, .int .u32 ver, .string nm, .int .u8 id, .slice a2 cols.length cap2] 72)) w2:=(by exact eX);have g2:=((Blk.new w #[.int .u32 oid, .int .u32 ver, .string nm, .int .u8 id, .slice a2 cols.length cap2] 72).ext hE2).cell;clear hb2)
   |(go_at_call 128;refine (HDA.out _ (by exact eX)).mono ?_;rintro e w6 ⟨rfl,hb6⟩;have hE6:Ext (w.alloc (.cells #[.int .u32 oid, .int .u32 ver, .string nm, .int .u8 id, .slice a2 cols.length cap2] 72)) w6:=(by exact eX);have g6:=((Blk.new w #[.int .u32 oid, .int .u32 ver, .string nm, .int .u8 id, .slice a2 cols.length cap2] 72).ext hE6).cell;clear hb6))
  go_ret
  exact ⟨ret_int HR2.out.symm,by exact eX⟩
 ·have e0:(id==0)=false:=by simp;omega
  have n0:(id !=0)=true:=by simp;omega
  have f0:((0:Int)==id)=false:=by simp;omega
  have m0:((0:Int) !=id)=true:=by simp;omega
  have e1:(id==1)=true:=by simp;omega
  have n1:(id !=1)=false:=by simp;omega
  have f1:((1:Int)==id)=true:=by simp;omega
  have m1:((1:Int) !=id)=false:=by simp;omega
  have e2:(id==2)=false:=by simp;omega
  have n2:(id !=2)=true:=by simp;omega
  have f2:((2:Int)==id)=false:=by simp;omega
  have m2:((2:Int) !=id)=true:=by simp;omega
  have hA:allowB id 5 0=true:=by rw [hi];decide
  clear hi
  rw [hA] at HAL
  by_cases hlb0:0<lb.length
  ·have HR2:=Hm (HRo.out.trans (if_pos ⟨rfl,hlb0⟩))
   clear HRo hA
   go_enter Tryz.func98,Tryz.ntmps98
   go_wp2_with (first
    |(go_at_call 124;refine (HAL.out _).mono ?_;rintro e w1 ⟨rfl,rfl⟩))
   go_ret
   exact ⟨ret_int HR2.out.symm,by exact eX⟩
  have hlb1:lb.length=0:=by omega
  have hlb2: ¬ ((0:Nat)<lb.length):=by omega
  have HR1:=Hm (HRo.out.trans (if_neg (fun h=>hlb2 h.2)))
  clear HRo hlb0 hlb1
  have HR1b:=Hm (HR1.out.trans ((if_neg (by rintro ⟨h,_⟩;revert h;decide)).trans (if_neg (by rw [hA];simp))))
  clear HR1 hA
  have HR3:=Hm (HR1b.out.trans ((if_neg (by simp)).trans (if_neg (by simp))))
  clear HR1b
  by_cases h1:EDA=0
  case neg=>
   have h1' :(EDA !=0)=true:=by simpa using h1
   have HR2:=Hm (HR3.out.trans ((if_neg (by decide)).trans ((if_neg (by rintro ⟨h,_⟩;revert h;decide)).trans (if_pos ⟨by decide,h1⟩))))
   clear h1
   go_enter Tryz.func98,Tryz.ntmps98
   go_wp2_with (first
    |(go_at_call 124;refine (HAL.out _).mono ?_;rintro e w1 ⟨rfl,rfl⟩)
    |(go_at_call 125;refine (HOK.out _ (by exact eX)).mono ?_;rintro e w2 ⟨rfl,hb2⟩;have hE2:Ext (w.alloc (.cells #[.int .u32 oid, .int .u32 ver, .string nm, .int .u8 id, .slice a2 cols.length cap2] 72)) w2:=(by exact eX);have g2:=((Blk.new w #[.int .u32 oid, .int .u32 ver, .string nm, .int .u8 id, .slice a2 cols.length cap2] 72).ext hE2).cell;clear hb2)
    |(go_at_call 128;refine (HDA.out _ (by exact eX)).mono ?_;rintro e w6 ⟨rfl,hb6⟩;have hE6:Ext (w.alloc (.cells #[.int .u32 oid, .int .u32 ver, .string nm, .int .u8 id, .slice a2 cols.length cap2] 72)) w6:=(by exact eX);have g6:=((Blk.new w #[.int .u32 oid, .int .u32 ver, .string nm, .int .u8 id, .slice a2 cols.length cap2] 72).ext hE6).cell;clear hb6))
   go_ret
   exact ⟨ret_int HR2.out.symm,by exact eX⟩
  subst h1
  have HR4:=Hm (HR3.out.trans ((if_neg (by decide)).trans ((if_neg (by simp)).trans (if_neg (by simp)))))
  clear HR3
  have HR2:=Hm (HR4.out.trans (if_neg (by simp)))
  clear HR4
  go_enter Tryz.func98,Tryz.ntmps98
  go_wp2_with (first
   |(go_at_call 124;refine (HAL.out _).mono ?_;rintro e w1 ⟨rfl,rfl⟩)
   |(go_at_call 125;refine (HOK.out _ (by exact eX)).mono ?_;rintro e w2 ⟨rfl,hb2⟩;have hE2:Ext (w.alloc (.cells #[.int .u32 oid, .int .u32 ver, .string nm, .int .u8 id, .slice a2 cols.length cap2] 72)) w2:=(by exact eX);have g2:=((Blk.new w #[.int .u32 oid, .int .u32 ver, .string nm, .int .u8 id, .slice a2 cols.length cap2] 72).ext hE2).cell;clear hb2)
   |(go_at_call 128;refine (HDA.out _ (by exact eX)).mono ?_;rintro e w6 ⟨rfl,hb6⟩;have hE6:Ext (w.alloc (.cells #[.int .u32 oid, .int .u32 ver, .string nm, .int .u8 id, .slice a2 cols.length cap2] 72)) w6:=(by exact eX);have g6:=((Blk.new w #[.int .u32 oid, .int .u32 ver, .string nm, .int .u8 id, .slice a2 cols.length cap2] 72).ext hE6).cell;clear hb6))
  go_ret
  exact ⟨ret_int HR2.out.symm,by exact eX⟩
 ·have e0:(id==0)=false:=by simp;omega
  have n0:(id !=0)=true:=by simp;omega
  have f0:((0:Int)==id)=false:=by simp;omega
  have m0:((0:Int) !=id)=true:=by simp;omega
  have e1:(id==1)=false:=by simp;omega
  have n1:(id !=1)=true:=by simp;omega
  have f1:((1:Int)==id)=false:=by simp;omega
  have m1:((1:Int) !=id)=true:=by simp;omega
  have e2:(id==2)=true:=by simp;omega
  have n2:(id !=2)=false:=by simp;omega
  have f2:((2:Int)==id)=true:=by simp;omega
  have m2:((2:Int) !=id)=false:=by simp;omega
  have hA:allowB id 5 0=false:=by rw [hi];decide
  clear hi
  rw [hA] at HAL
  have HR2:=Hm (HRo.out.trans (three14 hA))
  clear HRo hA
  go_enter Tryz.func98,Tryz.ntmps98
  go_wp2_with (first
   |(go_at_call 124;refine (HAL.out _).mono ?_;rintro e w1 ⟨rfl,rfl⟩))
  all_goals
   go_ret
   exact ⟨ret_int HR2.out.symm,by exact eX⟩
 ·have e0:(id==0)=false:=by simp;omega
  have n0:(id !=0)=true:=by simp;omega
  have f0:((0:Int)==id)=false:=by simp;omega
  have m0:((0:Int) !=id)=true:=by simp;omega
  have e1:(id==1)=false:=by simp;omega
  have n1:(id !=1)=true:=by simp;omega
  have f1:((1:Int)==id)=false:=by simp;omega
  have m1:((1:Int) !=id)=true:=by simp;omega
  have e2:(id==2)=false:=by simp;omega
  have n2:(id !=2)=true:=by simp;omega
  have f2:((2:Int)==id)=false:=by simp;omega
  have m2:((2:Int) !=id)=true:=by simp;omega
  have hA:allowB id 5 0=false:=by unfold allowB;simp<;>omega
  clear hi
  rw [hA] at HAL
  have HR2:=Hm (HRo.out.trans (three14 hA))
  clear HRo hA
  go_enter Tryz.func98,Tryz.ntmps98
  go_wp2_with (first
   |(go_at_call 124;refine (HAL.out _).mono ?_;rintro e w1 ⟨rfl,rfl⟩))
  all_goals
   go_ret
   exact ⟨ret_int HR2.out.symm,by exact eX⟩
 ·have e0:(id==0)=true:=by simp;omega
  have n0:(id !=0)=false:=by simp;omega
  have f0:((0:Int)==id)=true:=by simp;omega
  have m0:((0:Int) !=id)=false:=by simp;omega
  have e1:(id==1)=false:=by simp;omega
  have n1:(id !=1)=true:=by simp;omega
  have f1:((1:Int)==id)=false:=by simp;omega
  have m1:((1:Int) !=id)=true:=by simp;omega
  have e2:(id==2)=false:=by simp;omega
  have n2:(id !=2)=true:=by simp;omega
  have f2:((2:Int)==id)=false:=by simp;omega
  have m2:((2:Int) !=id)=true:=by simp;omega
  have hA:allowB id 5 1=false:=by rw [hi];decide
  clear hi
  rw [hA] at HAL
  have HR2:=Hm (HRo.out.trans (three14 hA))
  clear HRo hA
  go_enter Tryz.func98,Tryz.ntmps98
  go_wp2_with (first
   |(go_at_call 124;refine (HAL.out _).mono ?_;rintro e w1 ⟨rfl,rfl⟩))
  all_goals
   go_ret
   exact ⟨ret_int HR2.out.symm,by exact eX⟩
 ·have e0:(id==0)=false:=by simp;omega
  have n0:(id !=0)=true:=by simp;omega
  have f0:((0:Int)==id)=false:=by simp;omega
  have m0:((0:Int) !=id)=true:=by simp;omega
  have e1:(id==1)=true:=by simp;omega
  have n1:(id !=1)=false:=by simp;omega
  have f1:((1:Int)==id)=true:=by simp;omega
  have m1:((1:Int) !=id)=false:=by simp;omega
  have e2:(id==2)=false:=by simp;omega
  have n2:(id !=2)=true:=by simp;omega
  have f2:((2:Int)==id)=false:=by simp;omega
  have m2:((2:Int) !=id)=true:=by simp;omega
  have hA:allowB id 5 1=true:=by rw [hi];decide
  clear hi
  rw [hA] at HAL
  have HR1:=Hm (HRo.out.trans (if_neg (by rintro ⟨h,_⟩;revert h;decide)))
  clear HRo
  have HR1b:=Hm (HR1.out.trans ((if_neg (by rintro ⟨h,_⟩;revert h;decide)).trans (if_neg (by rw [hA];simp))))
  clear HR1 hA
  by_cases h0:EKB=0
  case neg=>
   have h0' :(EKB !=0)=true:=by simpa using h0
   have HR2:=Hm (HR1b.out.trans (if_pos ⟨rfl,h0⟩))
   clear h0
   go_enter Tryz.func98,Tryz.ntmps98
   go_wp2_with (first
    |(go_at_call 124;refine (HAL.out _).mono ?_;rintro e w1 ⟨rfl,rfl⟩)
    |(go_at_call 126;refine (HKB.out _ (by exact eX)).mono ?_;rintro e w3 ⟨rfl,hb3⟩;have hE3:Ext (w.alloc (.cells #[.int .u32 oid, .int .u32 ver, .string nm, .int .u8 id, .slice a2 cols.length cap2] 72)) w3:=(by exact eX);have g3:=((Blk.new w #[.int .u32 oid, .int .u32 ver, .string nm, .int .u8 id, .slice a2 cols.length cap2] 72).ext hE3).cell;clear hb3))
   go_ret
   exact ⟨ret_int HR2.out.symm,by exact eX⟩
  subst h0
  have HR3:=Hm (HR1b.out.trans ((if_neg (by simp)).trans (if_neg (by simp))))
  clear HR1b
  by_cases h1:EDA=0
  case neg=>
   have h1' :(EDA !=0)=true:=by simpa using h1
   have HR2:=Hm (HR3.out.trans ((if_neg (by decide)).trans ((if_neg (by rintro ⟨h,_⟩;revert h;decide)).trans (if_pos ⟨by decide,h1⟩))))
   clear h1
   go_enter Tryz.func98,Tryz.ntmps98
   go_wp2_with (first
    |(go_at_call 124;refine (HAL.out _).mono ?_;rintro e w1 ⟨rfl,rfl⟩)
    |(go_at_call 126;refine (HKB.out _ (by exact eX)).mono ?_;rintro e w3 ⟨rfl,hb3⟩;have hE3:Ext (w.alloc (.cells #[.int .u32 oid, .int .u32 ver, .string nm, .int .u8 id, .slice a2 cols.length cap2] 72)) w3:=(by exact eX);have g3:=((Blk.new w #[.int .u32 oid, .int .u32 ver, .string nm, .int .u8 id, .slice a2 cols.length cap2] 72).ext hE3).cell;clear hb3)
    |(go_at_call 128;refine (HDA.out _ (by exact eX)).mono ?_;rintro e w6 ⟨rfl,hb6⟩;have hE6:Ext (w.alloc (.cells #[.int .u32 oid, .int .u32 ver, .string nm, .int .u8 id, .slice a2 cols.length cap2] 72)) w6:=(by exact eX);have g6:=((Blk.new w #[.int .u32 oid, .int .u32 ver, .string nm, .int .u8 id, .slice a2 cols.length cap2] 72).ext hE6).cell;clear hb6))
   go_ret
   exact ⟨ret_int HR2.out.symm,by exact eX⟩
  subst h1
  have HR4:=Hm (HR3.out.trans ((if_neg (by decide)).trans ((if_neg (by simp)).trans (if_neg (by simp)))))
  clear HR3
  cases BAK
  all_goals
   have HR2:=Hm HR4.out
   go_enter Tryz.func98,Tryz.ntmps98
   go_wp2_with (first
    |(go_at_call 124;refine (HAL.out _).mono ?_;rintro e w1 ⟨rfl,rfl⟩)
    |(go_at_call 126;refine (HKB.out _ (by exact eX)).mono ?_;rintro e w3 ⟨rfl,hb3⟩;have hE3:Ext (w.alloc (.cells #[.int .u32 oid, .int .u32 ver, .string nm, .int .u8 id, .slice a2 cols.length cap2] 72)) w3:=(by exact eX);have g3:=((Blk.new w #[.int .u32 oid, .int .u32 ver, .string nm, .int .u8 id, .slice a2 cols.length cap2] 72).ext hE3).cell;clear hb3)
    |(go_at_call 128;refine (HDA.out _ (by exact eX)).mono ?_;rintro e w6 ⟨rfl,hb6⟩;have hE6:Ext (w.alloc (.cells #[.int .u32 oid, .int .u32 ver, .string nm, .int .u8 id, .slice a2 cols.length cap2] 72)) w6:=(by exact eX);have g6:=((Blk.new w #[.int .u32 oid, .int .u32 ver, .string nm, .int .u8 id, .slice a2 cols.length cap2] 72).ext hE6).cell;clear hb6)
    |(go_at_call 130;refine (HKO.out _ (by exact eX)).mono ?_;rintro e w7 ⟨g,c,rfl,hcc,hgg,hr7,hb7⟩;have HR7:=Hm hr7;have hE7:Ext (w.alloc (.cells #[.int .u32 oid, .int .u32 ver, .string nm, .int .u8 id, .slice a2 cols.length cap2] 72)) w7:=(by exact eX);clear hr7 hcc hgg hb7)
    |(go_at_call 129;refine (HAK.out _ _ _ (by exact eX) HR7.out).mono ?_;rintro e w8 ⟨rfl,hb8⟩))
   go_ret
   exact ⟨ret_int (by rw [HR2.out];simp),by exact eX⟩
 ·have e0:(id==0)=false:=by simp;omega
  have n0:(id !=0)=true:=by simp;omega
  have f0:((0:Int)==id)=false:=by simp;omega
  have m0:((0:Int) !=id)=true:=by simp;omega
  have e1:(id==1)=false:=by simp;omega
  have n1:(id !=1)=true:=by simp;omega
  have f1:((1:Int)==id)=false:=by simp;omega
  have m1:((1:Int) !=id)=true:=by simp;omega
  have e2:(id==2)=true:=by simp;omega
  have n2:(id !=2)=false:=by simp;omega
  have f2:((2:Int)==id)=true:=by simp;omega
  have m2:((2:Int) !=id)=false:=by simp;omega
  have hA:allowB id 5 1=false:=by rw [hi];decide
  clear hi
  rw [hA] at HAL
  have HR2:=Hm (HRo.out.trans (three14 hA))
  clear HRo hA
  go_enter Tryz.func98,Tryz.ntmps98
  go_wp2_with (first
   |(go_at_call 124;refine (HAL.out _).mono ?_;rintro e w1 ⟨rfl,rfl⟩))
  all_goals
   go_ret
   exact ⟨ret_int HR2.out.symm,by exact eX⟩
 ·have e0:(id==0)=false:=by simp;omega
  have n0:(id !=0)=true:=by simp;omega
  have f0:((0:Int)==id)=false:=by simp;omega
  have m0:((0:Int) !=id)=true:=by simp;omega
  have e1:(id==1)=false:=by simp;omega
  have n1:(id !=1)=true:=by simp;omega
  have f1:((1:Int)==id)=false:=by simp;omega
  have m1:((1:Int) !=id)=true:=by simp;omega
  have e2:(id==2)=false:=by simp;omega
  have n2:(id !=2)=true:=by simp;omega
  have f2:((2:Int)==id)=false:=by simp;omega
  have m2:((2:Int) !=id)=true:=by simp;omega
  have hA:allowB id 5 1=false:=by unfold allowB;simp<;>omega
  clear hi
  rw [hA] at HAL
  have HR2:=Hm (HRo.out.trans (three14 hA))
  clear HRo hA
  go_enter Tryz.func98,Tryz.ntmps98
  go_wp2_with (first
   |(go_at_call 124;refine (HAL.out _).mono ?_;rintro e w1 ⟨rfl,rfl⟩))
  all_goals
   go_ret
   exact ⟨ret_int HR2.out.symm,by exact eX⟩
 ·have e0:(id==0)=true:=by simp;omega
  have n0:(id !=0)=false:=by simp;omega
  have f0:((0:Int)==id)=true:=by simp;omega
  have m0:((0:Int) !=id)=false:=by simp;omega
  have e1:(id==1)=false:=by simp;omega
  have n1:(id !=1)=true:=by simp;omega
  have f1:((1:Int)==id)=false:=by simp;omega
  have m1:((1:Int) !=id)=true:=by simp;omega
  have e2:(id==2)=false:=by simp;omega
  have n2:(id !=2)=true:=by simp;omega
  have f2:((2:Int)==id)=false:=by simp;omega
  have m2:((2:Int) !=id)=true:=by simp;omega
  have hA:allowB id 5 2=false:=by rw [hi];decide
  clear hi
  rw [hA] at HAL
  have HR2:=Hm (HRo.out.trans (three14 hA))
  clear HRo hA
  go_enter Tryz.func98,Tryz.ntmps98
  go_wp2_with (first
   |(go_at_call 124;refine (HAL.out _).mono ?_;rintro e w1 ⟨rfl,rfl⟩))
  all_goals
   go_ret
   exact ⟨ret_int HR2.out.symm,by exact eX⟩
 ·have e0:(id==0)=false:=by simp;omega
  have n0:(id !=0)=true:=by simp;omega
  have f0:((0:Int)==id)=false:=by simp;omega
  have m0:((0:Int) !=id)=true:=by simp;omega
  have e1:(id==1)=true:=by simp;omega
  have n1:(id !=1)=false:=by simp;omega
  have f1:((1:Int)==id)=true:=by simp;omega
  have m1:((1:Int) !=id)=false:=by simp;omega
  have e2:(id==2)=false:=by simp;omega
  have n2:(id !=2)=true:=by simp;omega
  have f2:((2:Int)==id)=false:=by simp;omega
  have m2:((2:Int) !=id)=true:=by simp;omega
  have hA:allowB id 5 2=false:=by rw [hi];decide
  clear hi
  rw [hA] at HAL
  have HR2:=Hm (HRo.out.trans (three14 hA))
  clear HRo hA
  go_enter Tryz.func98,Tryz.ntmps98
  go_wp2_with (first
   |(go_at_call 124;refine (HAL.out _).mono ?_;rintro e w1 ⟨rfl,rfl⟩))
  all_goals
   go_ret
   exact ⟨ret_int HR2.out.symm,by exact eX⟩
 ·have e0:(id==0)=false:=by simp;omega
  have n0:(id !=0)=true:=by simp;omega
  have f0:((0:Int)==id)=false:=by simp;omega
  have m0:((0:Int) !=id)=true:=by simp;omega
  have e1:(id==1)=false:=by simp;omega
  have n1:(id !=1)=true:=by simp;omega
  have f1:((1:Int)==id)=false:=by simp;omega
  have m1:((1:Int) !=id)=true:=by simp;omega
  have e2:(id==2)=true:=by simp;omega
  have n2:(id !=2)=false:=by simp;omega
  have f2:((2:Int)==id)=true:=by simp;omega
  have m2:((2:Int) !=id)=false:=by simp;omega
  have hA:allowB id 5 2=true:=by rw [hi];decide
  clear hi
  rw [hA] at HAL
  have HR1:=Hm (HRo.out.trans (if_neg (by rintro ⟨h,_⟩;revert h;decide)))
  clear HRo
  have HR1b:=Hm (HR1.out.trans ((if_neg (by rintro ⟨h,_⟩;revert h;decide)).trans (if_neg (by rw [hA];simp))))
  clear HR1 hA
  by_cases h0:EFB=0
  case neg=>
   have h0' :(EFB !=0)=true:=by simpa using h0
   have HR2:=Hm (HR1b.out.trans ((if_neg (by simp)).trans (if_pos ⟨rfl,h0⟩)))
   clear h0
   go_enter Tryz.func98,Tryz.ntmps98
   go_wp2_with (first
    |(go_at_call 124;refine (HAL.out _).mono ?_;rintro e w1 ⟨rfl,rfl⟩)
    |(go_at_call 127;refine (HFB.out _ (by exact eX)).mono ?_;rintro e w4 ⟨rfl,hb4⟩;have hE4:Ext (w.alloc (.cells #[.int .u32 oid, .int .u32 ver, .string nm, .int .u8 id, .slice a2 cols.length cap2] 72)) w4:=(by exact eX);have g4:=((Blk.new w #[.int .u32 oid, .int .u32 ver, .string nm, .int .u8 id, .slice a2 cols.length cap2] 72).ext hE4).cell;clear hb4))
   go_ret
   exact ⟨ret_int HR2.out.symm,by exact eX⟩
  subst h0
  have HR3:=Hm (HR1b.out.trans ((if_neg (by simp)).trans (if_neg (by simp))))
  clear HR1b
  by_cases h1:EDA=0
  case neg=>
   have h1' :(EDA !=0)=true:=by simpa using h1
   have HR2:=Hm (HR3.out.trans ((if_neg (by decide)).trans ((if_neg (by rintro ⟨h,_⟩;revert h;decide)).trans (if_pos ⟨by decide,h1⟩))))
   clear h1
   go_enter Tryz.func98,Tryz.ntmps98
   go_wp2_with (first
    |(go_at_call 124;refine (HAL.out _).mono ?_;rintro e w1 ⟨rfl,rfl⟩)
    |(go_at_call 127;refine (HFB.out _ (by exact eX)).mono ?_;rintro e w4 ⟨rfl,hb4⟩;have hE4:Ext (w.alloc (.cells #[.int .u32 oid, .int .u32 ver, .string nm, .int .u8 id, .slice a2 cols.length cap2] 72)) w4:=(by exact eX);have g4:=((Blk.new w #[.int .u32 oid, .int .u32 ver, .string nm, .int .u8 id, .slice a2 cols.length cap2] 72).ext hE4).cell;clear hb4)
    |(go_at_call 128;refine (HDA.out _ (by exact eX)).mono ?_;rintro e w6 ⟨rfl,hb6⟩;have hE6:Ext (w.alloc (.cells #[.int .u32 oid, .int .u32 ver, .string nm, .int .u8 id, .slice a2 cols.length cap2] 72)) w6:=(by exact eX);have g6:=((Blk.new w #[.int .u32 oid, .int .u32 ver, .string nm, .int .u8 id, .slice a2 cols.length cap2] 72).ext hE6).cell;clear hb6))
   go_ret
   exact ⟨ret_int HR2.out.symm,by exact eX⟩
  subst h1
  have HR4:=Hm (HR3.out.trans ((if_neg (by decide)).trans ((if_neg (by simp)).trans (if_neg (by simp)))))
  clear HR3
  have HR2:=Hm (HR4.out.trans (if_neg (by simp)))
  clear HR4
  go_enter Tryz.func98,Tryz.ntmps98
  go_wp2_with (first
   |(go_at_call 124;refine (HAL.out _).mono ?_;rintro e w1 ⟨rfl,rfl⟩)
   |(go_at_call 127;refine (HFB.out _ (by exact eX)).mono ?_;rintro e w4 ⟨rfl,hb4⟩;have hE4:Ext (w.alloc (.cells #[.int .u32 oid, .int .u32 ver, .string nm, .int .u8 id, .slice a2 cols.length cap2] 72)) w4:=(by exact eX);have g4:=((Blk.new w #[.int .u32 oid, .int .u32 ver, .string nm, .int .u8 id, .slice a2 cols.length cap2] 72).ext hE4).cell;clear hb4)
   |(go_at_call 128;refine (HDA.out _ (by exact eX)).mono ?_;rintro e w6 ⟨rfl,hb6⟩;have hE6:Ext (w.alloc (.cells #[.int .u32 oid, .int .u32 ver, .string nm, .int .u8 id, .slice a2 cols.length cap2] 72)) w6:=(by exact eX);have g6:=((Blk.new w #[.int .u32 oid, .int .u32 ver, .string nm, .int .u8 id, .slice a2 cols.length cap2] 72).ext hE6).cell;clear hb6))
  go_ret
  exact ⟨ret_int HR2.out.symm,by exact eX⟩
 ·have e0:(id==0)=false:=by simp;omega
  have n0:(id !=0)=true:=by simp;omega
  have f0:((0:Int)==id)=false:=by simp;omega
  have m0:((0:Int) !=id)=true:=by simp;omega
  have e1:(id==1)=false:=by simp;omega
  have n1:(id !=1)=true:=by simp;omega
  have f1:((1:Int)==id)=false:=by simp;omega
  have m1:((1:Int) !=id)=true:=by simp;omega
  have e2:(id==2)=false:=by simp;omega
  have n2:(id !=2)=true:=by simp;omega
  have f2:((2:Int)==id)=false:=by simp;omega
  have m2:((2:Int) !=id)=true:=by simp;omega
  have hA:allowB id 5 2=false:=by unfold allowB;simp<;>omega
  clear hi
  rw [hA] at HAL
  have HR2:=Hm (HRo.out.trans (three14 hA))
  clear HRo hA
  go_enter Tryz.func98,Tryz.ntmps98
  go_wp2_with (first
   |(go_at_call 124;refine (HAL.out _).mono ?_;rintro e w1 ⟨rfl,rfl⟩))
  all_goals
   go_ret
   exact ⟨ret_int HR2.out.symm,by exact eX⟩
 ·have e0:(id==0)=true:=by simp;omega
  have n0:(id !=0)=false:=by simp;omega
  have f0:((0:Int)==id)=true:=by simp;omega
  have m0:((0:Int) !=id)=false:=by simp;omega
  have e1:(id==1)=false:=by simp;omega
  have n1:(id !=1)=true:=by simp;omega
  have f1:((1:Int)==id)=false:=by simp;omega
  have m1:((1:Int) !=id)=true:=by simp;omega
  have e2:(id==2)=false:=by simp;omega
  have n2:(id !=2)=true:=by simp;omega
  have f2:((2:Int)==id)=false:=by simp;omega
  have m2:((2:Int) !=id)=true:=by simp;omega
  have hA:allowB id 6 0=false:=by rw [hi];decide
  clear hi
  rw [hA] at HAL
  have HR2:=Hm (HRo.out.trans (three14 hA))
  clear HRo hA
  go_enter Tryz.func98,Tryz.ntmps98
  go_wp2_with (first
   |(go_at_call 124;refine (HAL.out _).mono ?_;rintro e w1 ⟨rfl,rfl⟩))
  all_goals
   go_ret
   exact ⟨ret_int HR2.out.symm,by exact eX⟩
 ·have e0:(id==0)=false:=by simp;omega
  have n0:(id !=0)=true:=by simp;omega
  have f0:((0:Int)==id)=false:=by simp;omega
  have m0:((0:Int) !=id)=true:=by simp;omega
  have e1:(id==1)=true:=by simp;omega
  have n1:(id !=1)=false:=by simp;omega
  have f1:((1:Int)==id)=true:=by simp;omega
  have m1:((1:Int) !=id)=false:=by simp;omega
  have e2:(id==2)=false:=by simp;omega
  have n2:(id !=2)=true:=by simp;omega
  have f2:((2:Int)==id)=false:=by simp;omega
  have m2:((2:Int) !=id)=true:=by simp;omega
  have hA:allowB id 6 0=false:=by rw [hi];decide
  clear hi
  rw [hA] at HAL
  have HR2:=Hm (HRo.out.trans (three14 hA))
  clear HRo hA
  go_enter Tryz.func98,Tryz.ntmps98
  go_wp2_with (first
   |(go_at_call 124;refine (HAL.out _).mono ?_;rintro e w1 ⟨rfl,rfl⟩))
  all_goals
   go_ret
   exact ⟨ret_int HR2.out.symm,by exact eX⟩
 ·have e0:(id==0)=false:=by simp;omega
  have n0:(id !=0)=true:=by simp;omega
  have f0:((0:Int)==id)=false:=by simp;omega
  have m0:((0:Int) !=id)=true:=by simp;omega
  have e1:(id==1)=false:=by simp;omega
  have n1:(id !=1)=true:=by simp;omega
  have f1:((1:Int)==id)=false:=by simp;omega
  have m1:((1:Int) !=id)=true:=by simp;omega
  have e2:(id==2)=true:=by simp;omega
  have n2:(id !=2)=false:=by simp;omega
  have f2:((2:Int)==id)=true:=by simp;omega
  have m2:((2:Int) !=id)=false:=by simp;omega
  have hA:allowB id 6 0=false:=by rw [hi];decide
  clear hi
  rw [hA] at HAL
  have HR2:=Hm (HRo.out.trans (three14 hA))
  clear HRo hA
  go_enter Tryz.func98,Tryz.ntmps98
  go_wp2_with (first
   |(go_at_call 124;refine (HAL.out _).mono ?_;rintro e w1 ⟨rfl,rfl⟩))
  all_goals
   go_ret
   exact ⟨ret_int HR2.out.symm,by exact eX⟩
 ·have e0:(id==0)=false:=by simp;omega
  have n0:(id !=0)=true:=by simp;omega
  have f0:((0:Int)==id)=false:=by simp;omega
  have m0:((0:Int) !=id)=true:=by simp;omega
  have e1:(id==1)=false:=by simp;omega
  have n1:(id !=1)=true:=by simp;omega
  have f1:((1:Int)==id)=false:=by simp;omega
  have m1:((1:Int) !=id)=true:=by simp;omega
  have e2:(id==2)=false:=by simp;omega
  have n2:(id !=2)=true:=by simp;omega
  have f2:((2:Int)==id)=false:=by simp;omega
  have m2:((2:Int) !=id)=true:=by simp;omega
  have hA:allowB id 6 0=false:=by unfold allowB;simp<;>omega
  clear hi
  rw [hA] at HAL
  have HR2:=Hm (HRo.out.trans (three14 hA))
  clear HRo hA
  go_enter Tryz.func98,Tryz.ntmps98
  go_wp2_with (first
   |(go_at_call 124;refine (HAL.out _).mono ?_;rintro e w1 ⟨rfl,rfl⟩))
  all_goals
   go_ret
   exact ⟨ret_int HR2.out.symm,by exact eX⟩
 ·have e0:(id==0)=true:=by simp;omega
  have n0:(id !=0)=false:=by simp;omega
  have f0:((0:Int)==id)=true:=by simp;omega
  have m0:((0:Int) !=id)=false:=by simp;omega
  have e1:(id==1)=false:=by simp;omega
  have n1:(id !=1)=true:=by simp;omega
  have f1:((1:Int)==id)=false:=by simp;omega
  have m1:((1:Int) !=id)=true:=by simp;omega
  have e2:(id==2)=false:=by simp;omega
  have n2:(id !=2)=true:=by simp;omega
  have f2:((2:Int)==id)=false:=by simp;omega
  have m2:((2:Int) !=id)=true:=by simp;omega
  have hA:allowB id 6 1=false:=by rw [hi];decide
  clear hi
  rw [hA] at HAL
  have HR2:=Hm (HRo.out.trans (three14 hA))
  clear HRo hA
  go_enter Tryz.func98,Tryz.ntmps98
  go_wp2_with (first
   |(go_at_call 124;refine (HAL.out _).mono ?_;rintro e w1 ⟨rfl,rfl⟩))
  all_goals
   go_ret
   exact ⟨ret_int HR2.out.symm,by exact eX⟩
 ·have e0:(id==0)=false:=by simp;omega
  have n0:(id !=0)=true:=by simp;omega
  have f0:((0:Int)==id)=false:=by simp;omega
  have m0:((0:Int) !=id)=true:=by simp;omega
  have e1:(id==1)=true:=by simp;omega
  have n1:(id !=1)=false:=by simp;omega
  have f1:((1:Int)==id)=true:=by simp;omega
  have m1:((1:Int) !=id)=false:=by simp;omega
  have e2:(id==2)=false:=by simp;omega
  have n2:(id !=2)=true:=by simp;omega
  have f2:((2:Int)==id)=false:=by simp;omega
  have m2:((2:Int) !=id)=true:=by simp;omega
  have hA:allowB id 6 1=true:=by rw [hi];decide
  clear hi
  rw [hA] at HAL
  have HR1:=Hm (HRo.out.trans (if_neg (by rintro ⟨h,_⟩;revert h;decide)))
  clear HRo
  by_cases hla0:0<la.length
  ·have HR2:=Hm (HR1.out.trans (if_pos ⟨rfl,hla0⟩))
   clear HR1 hA
   go_enter Tryz.func98,Tryz.ntmps98
   go_wp2_with (first
    |(go_at_call 124;refine (HAL.out _).mono ?_;rintro e w1 ⟨rfl,rfl⟩))
   go_ret
   exact ⟨ret_int HR2.out.symm,by exact eX⟩
  have HR1b:=Hm (HR1.out.trans ((if_neg (fun h=>hla0 h.2)).trans (if_neg (by rw [hA];simp))))
  clear HR1 hA
  by_cases h0:EKB=0
  case neg=>
   have h0' :(EKB !=0)=true:=by simpa using h0
   have HR2:=Hm (HR1b.out.trans (if_pos ⟨rfl,h0⟩))
   clear h0
   go_enter Tryz.func98,Tryz.ntmps98
   go_wp2_with (first
    |(go_at_call 124;refine (HAL.out _).mono ?_;rintro e w1 ⟨rfl,rfl⟩)
    |(go_at_call 126;refine (HKB.out _ (by exact eX)).mono ?_;rintro e w3 ⟨rfl,hb3⟩;have hE3:Ext (w.alloc (.cells #[.int .u32 oid, .int .u32 ver, .string nm, .int .u8 id, .slice a2 cols.length cap2] 72)) w3:=(by exact eX);have g3:=((Blk.new w #[.int .u32 oid, .int .u32 ver, .string nm, .int .u8 id, .slice a2 cols.length cap2] 72).ext hE3).cell;clear hb3))
   go_ret
   exact ⟨ret_int HR2.out.symm,by exact eX⟩
  subst h0
  have HR3:=Hm (HR1b.out.trans ((if_neg (by simp)).trans (if_neg (by simp))))
  clear HR1b
  have HR2:=Hm (HR3.out.trans (if_pos rfl))
  clear HR3
  go_enter Tryz.func98,Tryz.ntmps98
  go_wp2_with (first
   |(go_at_call 124;refine (HAL.out _).mono ?_;rintro e w1 ⟨rfl,rfl⟩)
   |(go_at_call 126;refine (HKB.out _ (by exact eX)).mono ?_;rintro e w3 ⟨rfl,hb3⟩;have hE3:Ext (w.alloc (.cells #[.int .u32 oid, .int .u32 ver, .string nm, .int .u8 id, .slice a2 cols.length cap2] 72)) w3:=(by exact eX);have g3:=((Blk.new w #[.int .u32 oid, .int .u32 ver, .string nm, .int .u8 id, .slice a2 cols.length cap2] 72).ext hE3).cell;clear hb3))
  go_ret
  exact ⟨ret_int HR2.out.symm,by exact eX⟩
 ·have e0:(id==0)=false:=by simp;omega
  have n0:(id !=0)=true:=by simp;omega
  have f0:((0:Int)==id)=false:=by simp;omega
  have m0:((0:Int) !=id)=true:=by simp;omega
  have e1:(id==1)=false:=by simp;omega
  have n1:(id !=1)=true:=by simp;omega
  have f1:((1:Int)==id)=false:=by simp;omega
  have m1:((1:Int) !=id)=true:=by simp;omega
  have e2:(id==2)=true:=by simp;omega
  have n2:(id !=2)=false:=by simp;omega
  have f2:((2:Int)==id)=true:=by simp;omega
  have m2:((2:Int) !=id)=false:=by simp;omega
  have hA:allowB id 6 1=false:=by rw [hi];decide
  clear hi
  rw [hA] at HAL
  have HR2:=Hm (HRo.out.trans (three14 hA))
  clear HRo hA
  go_enter Tryz.func98,Tryz.ntmps98
  go_wp2_with (first
   |(go_at_call 124;refine (HAL.out _).mono ?_;rintro e w1 ⟨rfl,rfl⟩))
  all_goals
   go_ret
   exact ⟨ret_int HR2.out.symm,by exact eX⟩
 ·have e0:(id==0)=false:=by simp;omega
  have n0:(id !=0)=true:=by simp;omega
  have f0:((0:Int)==id)=false:=by simp;omega
  have m0:((0:Int) !=id)=true:=by simp;omega
  have e1:(id==1)=false:=by simp;omega
  have n1:(id !=1)=true:=by simp;omega
  have f1:((1:Int)==id)=false:=by simp;omega
  have m1:((1:Int) !=id)=true:=by simp;omega
  have e2:(id==2)=false:=by simp;omega
  have n2:(id !=2)=true:=by simp;omega
  have f2:((2:Int)==id)=false:=by simp;omega
  have m2:((2:Int) !=id)=true:=by simp;omega
  have hA:allowB id 6 1=false:=by unfold allowB;simp<;>omega
  clear hi
  rw [hA] at HAL
  have HR2:=Hm (HRo.out.trans (three14 hA))
  clear HRo hA
  go_enter Tryz.func98,Tryz.ntmps98
  go_wp2_with (first
   |(go_at_call 124;refine (HAL.out _).mono ?_;rintro e w1 ⟨rfl,rfl⟩))
  all_goals
   go_ret
   exact ⟨ret_int HR2.out.symm,by exact eX⟩
 ·have e0:(id==0)=true:=by simp;omega
  have n0:(id !=0)=false:=by simp;omega
  have f0:((0:Int)==id)=true:=by simp;omega
  have m0:((0:Int) !=id)=false:=by simp;omega
  have e1:(id==1)=false:=by simp;omega
  have n1:(id !=1)=true:=by simp;omega
  have f1:((1:Int)==id)=false:=by simp;omega
  have m1:((1:Int) !=id)=true:=by simp;omega
  have e2:(id==2)=false:=by simp;omega
  have n2:(id !=2)=true:=by simp;omega
  have f2:((2:Int)==id)=false:=by simp;omega
  have m2:((2:Int) !=id)=true:=by simp;omega
  have hA:allowB id 6 2=false:=by rw [hi];decide
  clear hi
  rw [hA] at HAL
  have HR2:=Hm (HRo.out.trans (three14 hA))
  clear HRo hA
  go_enter Tryz.func98,Tryz.ntmps98
  go_wp2_with (first
   |(go_at_call 124;refine (HAL.out _).mono ?_;rintro e w1 ⟨rfl,rfl⟩))
  all_goals
   go_ret
   exact ⟨ret_int HR2.out.symm,by exact eX⟩
 ·have e0:(id==0)=false:=by simp;omega
  have n0:(id !=0)=true:=by simp;omega
  have f0:((0:Int)==id)=false:=by simp;omega
  have m0:((0:Int) !=id)=true:=by simp;omega
  have e1:(id==1)=true:=by simp;omega
  have n1:(id !=1)=false:=by simp;omega
  have f1:((1:Int)==id)=true:=by simp;omega
  have m1:((1:Int) !=id)=false:=by simp;omega
  have e2:(id==2)=false:=by simp;omega
  have n2:(id !=2)=true:=by simp;omega
  have f2:((2:Int)==id)=false:=by simp;omega
  have m2:((2:Int) !=id)=true:=by simp;omega
  have hA:allowB id 6 2=false:=by rw [hi];decide
  clear hi
  rw [hA] at HAL
  have HR2:=Hm (HRo.out.trans (three14 hA))
  clear HRo hA
  go_enter Tryz.func98,Tryz.ntmps98
  go_wp2_with (first
   |(go_at_call 124;refine (HAL.out _).mono ?_;rintro e w1 ⟨rfl,rfl⟩))
  all_goals
   go_ret
   exact ⟨ret_int HR2.out.symm,by exact eX⟩
 ·have e0:(id==0)=false:=by simp;omega
  have n0:(id !=0)=true:=by simp;omega
  have f0:((0:Int)==id)=false:=by simp;omega
  have m0:((0:Int) !=id)=true:=by simp;omega
  have e1:(id==1)=false:=by simp;omega
  have n1:(id !=1)=true:=by simp;omega
  have f1:((1:Int)==id)=false:=by simp;omega
  have m1:((1:Int) !=id)=true:=by simp;omega
  have e2:(id==2)=true:=by simp;omega
  have n2:(id !=2)=false:=by simp;omega
  have f2:((2:Int)==id)=true:=by simp;omega
  have m2:((2:Int) !=id)=false:=by simp;omega
  have hA:allowB id 6 2=true:=by rw [hi];decide
  clear hi
  rw [hA] at HAL
  have HR1:=Hm (HRo.out.trans (if_neg (by rintro ⟨h,_⟩;revert h;decide)))
  clear HRo
  by_cases hla0:0<la.length
  ·have HR2:=Hm (HR1.out.trans (if_pos ⟨rfl,hla0⟩))
   clear HR1 hA
   go_enter Tryz.func98,Tryz.ntmps98
   go_wp2_with (first
    |(go_at_call 124;refine (HAL.out _).mono ?_;rintro e w1 ⟨rfl,rfl⟩))
   go_ret
   exact ⟨ret_int HR2.out.symm,by exact eX⟩
  have HR1b:=Hm (HR1.out.trans ((if_neg (fun h=>hla0 h.2)).trans (if_neg (by rw [hA];simp))))
  clear HR1 hA
  by_cases h0:EFB=0
  case neg=>
   have h0' :(EFB !=0)=true:=by simpa using h0
   have HR2:=Hm (HR1b.out.trans ((if_neg (by simp)).trans (if_pos ⟨rfl,h0⟩)))
   clear h0
   go_enter Tryz.func98,Tryz.ntmps98
   go_wp2_with (first
    |(go_at_call 124;refine (HAL.out _).mono ?_;rintro e w1 ⟨rfl,rfl⟩)
    |(go_at_call 127;refine (HFB.out _ (by exact eX)).mono ?_;rintro e w4 ⟨rfl,hb4⟩;have hE4:Ext (w.alloc (.cells #[.int .u32 oid, .int .u32 ver, .string nm, .int .u8 id, .slice a2 cols.length cap2] 72)) w4:=(by exact eX);have g4:=((Blk.new w #[.int .u32 oid, .int .u32 ver, .string nm, .int .u8 id, .slice a2 cols.length cap2] 72).ext hE4).cell;clear hb4))
   go_ret
   exact ⟨ret_int HR2.out.symm,by exact eX⟩
  subst h0
  have HR3:=Hm (HR1b.out.trans ((if_neg (by simp)).trans (if_neg (by simp))))
  clear HR1b
  have HR2:=Hm (HR3.out.trans (if_pos rfl))
  clear HR3
  go_enter Tryz.func98,Tryz.ntmps98
  go_wp2_with (first
   |(go_at_call 124;refine (HAL.out _).mono ?_;rintro e w1 ⟨rfl,rfl⟩)
   |(go_at_call 127;refine (HFB.out _ (by exact eX)).mono ?_;rintro e w4 ⟨rfl,hb4⟩;have hE4:Ext (w.alloc (.cells #[.int .u32 oid, .int .u32 ver, .string nm, .int .u8 id, .slice a2 cols.length cap2] 72)) w4:=(by exact eX);have g4:=((Blk.new w #[.int .u32 oid, .int .u32 ver, .string nm, .int .u8 id, .slice a2 cols.length cap2] 72).ext hE4).cell;clear hb4))
  go_ret
  exact ⟨ret_int HR2.out.symm,by exact eX⟩
 ·have e0:(id==0)=false:=by simp;omega
  have n0:(id !=0)=true:=by simp;omega
  have f0:((0:Int)==id)=false:=by simp;omega
  have m0:((0:Int) !=id)=true:=by simp;omega
  have e1:(id==1)=false:=by simp;omega
  have n1:(id !=1)=true:=by simp;omega
  have f1:((1:Int)==id)=false:=by simp;omega
  have m1:((1:Int) !=id)=true:=by simp;omega
  have e2:(id==2)=false:=by simp;omega
  have n2:(id !=2)=true:=by simp;omega
  have f2:((2:Int)==id)=false:=by simp;omega
  have m2:((2:Int) !=id)=true:=by simp;omega
  have hA:allowB id 6 2=false:=by unfold allowB;simp<;>omega
  clear hi
  rw [hA] at HAL
  have HR2:=Hm (HRo.out.trans (three14 hA))
  clear HRo hA
  go_enter Tryz.func98,Tryz.ntmps98
  go_wp2_with (first
   |(go_at_call 124;refine (HAL.out _).mono ?_;rintro e w1 ⟨rfl,rfl⟩))
  all_goals
   go_ret
   exact ⟨ret_int HR2.out.symm,by exact eX⟩
end Go.Proofs.YtgmphpccpfaapaaGreatDoor
