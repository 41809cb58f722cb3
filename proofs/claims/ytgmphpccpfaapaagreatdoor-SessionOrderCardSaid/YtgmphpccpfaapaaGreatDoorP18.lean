/-
What is wrong with an event: the program's rowed, own, truncate, Right.
-/
import Derived.Test.YtgmphpccpfaapaaGreatDoorP8
import Derived.Test.YtgmphpccpfaapaaGreatDoorP12
import Derived.Test.YtgmphpccpfaapaaGreatDoorP16
import Derived.Test.YtgmphpccpfaapaaGreatDoorP17
import Derived.Test.YtgmphpccpfaapaaGreatDoorP4
set_option maxRecDepth 100000
set_option maxHeartbeats 16000000
namespace Go.Proofs.YtgmphpccpfaapaaGreatDoor
open Go.RowKit
def rowedB (k:Int):Bool:=decide (4≤k∧k≤6)
def Ev.only (e:Ev):Ev:=if rowedB e.kind=true then ⟨e.kind,e.ao,e.av,e.old,e.b,e.a, [],0⟩ else ⟨e.kind,0,0,0, [], [],e.rs,e.fl⟩
noncomputable def ownB (e:Ev):Bool:=evB e e.only
noncomputable def risB (l:List Rf):Bool:= @decide (∀i (h:i+1<l.length),aheadB l[i].o l[i].v l[i+1].o l[i+1].v=true) (Classical.propDecidable _)
theorem risB_true {l:List Rf} :risB l=true↔∀i (h:i+1<l.length),aheadB l[i].o l[i].v l[i+1].o l[i+1].v=true:=by unfold risB;simp
theorem risB_no {l:List Rf} {i:Nat} (h:i+1<l.length) (hn:aheadB l[i].o l[i].v l[i+1].o l[i+1].v=false):risB l=false:=by
 cases hr:risB l with
 |false=>rfl
 |true=>rw [risB_true.1 hr i h] at hn;cases hn
def hasAll (rs:List Rf) (l:List Rl):Bool:=rs.all (fun x=>hasR x.o x.v l)
theorem hasAll_no {rs:List Rf} {l:List Rl} {k:Nat} (hk:k<rs.length) (h:hasR rs[k].o rs[k].v l=false):hasAll rs l=false:=by
 unfold hasAll
 rw [List.all_eq_false]
 exact ⟨_,List.getElem_mem hk,by rw [h];simp⟩
theorem hasAll_yes {rs:List Rf} {l:List Rl} (h:∀k (hk:k<rs.length),hasR rs[k].o rs[k].v l=true):hasAll rs l=true:=by
 unfold hasAll
 rw [List.all_eq_true]
 intro x hx
 obtain ⟨k,hk,rfl⟩:=List.getElem_of_mem hx
 exact h k hk
noncomputable def truncE (e:Ev) (l:List Rl):Int:=if e.rs.length<1∨8<e.rs.length then 17 else if risB e.rs=false then 15 else if hasAll e.rs l=false then 10 else if 3<e.fl then 4 else 0
noncomputable def evE (e:Ev) (l:List Rl):Int:=
 if e.kind<4∨7<e.kind then 7 else if ownB e=false then 3 else if e.kind=7 then truncE e l else match getR e.ao e.av l with
  |none=>10
  |some r=>imgE r e.kind e.old e.b e.a
theorem rowed_any (x:EL) (w:World):Calls Tryz.prog 68 #[x.agg] w fun e w' =>e= .returned (.bool (rowedB x.e.kind))∧Ext w w' :=by
 obtain ⟨⟨k1,ao1,av1,old1,b1,a1,r1,fl1⟩,ba1,bc1,aa1,ac1,ra1,rc1⟩:=x
 unfold EL.agg
 simp only
 by_cases h4:4≤k1
 ·by_cases h6:k1≤6
  ·have HR:=Hm (show rowedB k1=true from decide_eq_true ⟨h4,h6⟩)
   go_enter Tryz.func68,Tryz.ntmps68
   go_wp2
   go_ret
   exact ⟨ret_bool HR.out.symm,by exact eX⟩
  ·have HR:=Hm (show rowedB k1=false from decide_eq_false (fun h=>h6 h.2))
   go_enter Tryz.func68,Tryz.ntmps68
   go_wp2
   go_ret
   exact ⟨ret_bool HR.out.symm,by exact eX⟩
 ·have HR:=Hm (show rowedB k1=false from decide_eq_false (fun h=>h4 h.1))
  go_enter Tryz.func68,Tryz.ntmps68
  go_wp2
  go_ret
  exact ⟨ret_bool HR.out.symm,by exact eX⟩
theorem nilRef (w:World):Sl w (.slice none 0 0) 2 (([]:List Rf).map Rf.cells):=⟨none,0,rfl, .inl rfl⟩
theorem nilRowP (w:World):Sl w (.slice none 0 0) 5 (([]:List K).map K.pc):=⟨none,0,rfl, .inl rfl⟩
theorem pown13_any (x:EL) (w:World) (hx:x.at 5 K.pc w) (hs:x.e.small):Calls Tryz.prog 96 #[x.agg] w fun e w' =>e= .returned (.bool (ownB x.e))∧Ext w w' :=by
 have HRW:=Hm (fun W=>rowed_any x W)
 have HAK:=Hm (fun y W (h:Ext w W) (h2:y.at 5 K.pc W) (h3:y.e.small)=>ealike_any x y W (hx.ext h) h2 hs h3)
 have HX:=Hm (And.intro hx hs)
 obtain ⟨⟨k1,ao1,av1,old1,b1,a1,r1,fl1⟩,ba1,bc1,aa1,ac1,ra1,rc1⟩:=x
 unfold EL.agg at HRW HAK⊢
 simp only at HRW HAK⊢
 clear hx hs
 cases hr:rowedB k1 with
 |true=>
  have HR:=Hm (show ownB (⟨k1,ao1,av1,old1,b1,a1,r1,fl1⟩:Ev)=evB (⟨k1,ao1,av1,old1,b1,a1,r1,fl1⟩:Ev) ⟨k1,ao1,av1,old1,b1,a1, [],0⟩ from by unfold ownB Ev.only;rw [if_pos hr])
  rw [hr] at HRW
  clear hr
  go_enter Tryz.func96,Tryz.ntmps96
  go_upto_region 3 with (go_at_call 68;refine (HRW.out _).mono ?_;rintro e w1 ⟨rfl,hb1⟩;have HB1:=Hm hb1;have hE_w1:Ext ((w.alloc (.cells #[.int .u8 k1, .int .u32 ao1, .int .u32 av1, .int .u8 old1, .slice ba1 b1.length bc1, .slice aa1 a1.length ac1, .slice ra1 r1.length rc1, .int .u8 fl1] 77)).alloc (.cells #[.int .u8 k1, .int .u32 0, .int .u32 0, .int .u8 0, .slice none 0 0, .slice none 0 0, .slice none 0 0, .int .u8 0] 77)) w1:=(by exact eX);obtain ⟨hc_w1,hf_w1⟩:=hE_w1.cells;have hz_w1:=hE_w1.size)
  have HW1:=Hm (((Ext.refl (w.alloc (.cells #[.int .u8 k1, .int .u32 ao1, .int .u32 av1, .int .u8 old1, .slice ba1 b1.length bc1, .slice aa1 a1.length ac1, .slice ra1 r1.length rc1, .int .u8 fl1] 77))).alloc (.cells #[.int .u8 k1, .int .u32 0, .int .u32 0, .int .u8 0, .slice none 0 0, .slice none 0 0, .slice none 0 0, .int .u8 0] 77)).trans HB1.out)
  have hV:Blk w1 w.heap.size #[.int .u8 k1, .int .u32 ao1, .int .u32 av1, .int .u8 old1, .slice ba1 b1.length bc1, .slice aa1 a1.length ac1, .slice ra1 r1.length rc1, .int .u8 fl1] 77:=(((Blk.new w #[.int .u8 k1, .int .u32 ao1, .int .u32 av1, .int .u8 old1, .slice ba1 b1.length bc1, .slice aa1 a1.length ac1, .slice ra1 r1.length rc1, .int .u8 fl1] 77).alloc _).ext HB1.out)
  have hZ:Blk w1 (w.heap.size+1) #[.int .u8 k1, .int .u32 0, .int .u32 0, .int .u8 0, .slice none 0 0, .slice none 0 0, .slice none 0 0, .int .u8 0] 77:=((Blk.new' (w:=w.alloc (.cells #[.int .u8 k1, .int .u32 ao1, .int .u32 av1, .int .u8 old1, .slice ba1 b1.length bc1, .slice aa1 a1.length ac1, .slice ra1 r1.length rc1, .int .u8 fl1] 77)) _ _ (by simp)).ext HB1.out)
  have HV:=Hm hV
  have HZ:=Hm hZ
  have gv:=hV.cell
  have gz:=hZ.cell
  have gzf:=hZ.frozen
  have zv:=hV.lt
  have zz:=hZ.lt
  have hE1:=HW1.out
  clear hV hZ hE_w1 hc_w1 hf_w1 hz_w1
  go_region_held3 (fun w' =>Ext (w.alloc (.cells #[.int .u8 k1, .int .u32 ao1, .int .u32 av1, .int .u8 old1, .slice ba1 b1.length bc1, .slice aa1 a1.length ac1, .slice ra1 r1.length rc1, .int .u8 fl1] 77)) w'∧(∀b o,b<(w.alloc (.cells #[.int .u8 k1, .int .u32 ao1, .int .u32 av1, .int .u8 old1, .slice ba1 b1.length bc1, .slice aa1 a1.length ac1, .slice ra1 r1.length rc1, .int .u8 fl1] 77)).heap.size→w'.cell? ⟨b,o,none⟩=(w.alloc (.cells #[.int .u8 k1, .int .u32 ao1, .int .u32 av1, .int .u8 old1, .slice ba1 b1.length bc1, .slice aa1 a1.length ac1, .slice ra1 r1.length rc1, .int .u8 fl1] 77)).cell? ⟨b,o,none⟩)∧(∀b o,b<(w.alloc (.cells #[.int .u8 k1, .int .u32 ao1, .int .u32 av1, .int .u8 old1, .slice ba1 b1.length bc1, .slice aa1 a1.length ac1, .slice ra1 r1.length rc1, .int .u8 fl1] 77)).heap.size→w'.frozen? ⟨b,o,none⟩=(w.alloc (.cells #[.int .u8 k1, .int .u32 ao1, .int .u32 av1, .int .u8 old1, .slice ba1 b1.length bc1, .slice aa1 a1.length ac1, .slice ra1 r1.length rc1, .int .u8 fl1] 77)).frozen? ⟨b,o,none⟩)) ((exact held_of (by exact eX))) (fail)
  have HZ2:=Hm (show Blk (((((w1.setCell ⟨w.heap.size+1,1,none⟩ (.int .u32 ao1)).setCell ⟨w.heap.size+1,2,none⟩ (.int .u32 av1)).setCell ⟨w.heap.size+1,3,none⟩ (.int .u8 old1)).setCell ⟨w.heap.size+1,4,none⟩ (.slice ba1 b1.length bc1)).setCell ⟨w.heap.size+1,5,none⟩ (.slice aa1 a1.length ac1)) (w.heap.size+1) #[.int .u8 k1, .int .u32 ao1, .int .u32 av1, .int .u8 old1, .slice ba1 b1.length bc1, .slice aa1 a1.length ac1, .slice none 0 0, .int .u8 0] 77 from by
   have:=((((HZ.out.set 1 (.int .u32 ao1)).set 2 (.int .u32 av1)).set 3 (.int .u8 old1)).set 4 (.slice ba1 b1.length bc1)).set 5 (.slice aa1 a1.length ac1)
   simpa only [List.setIfInBounds_toArray,List.set_cons_zero,List.set_cons_succ] using this)
  have HE2:=Hm (show Ext (w.alloc (.cells #[.int .u8 k1, .int .u32 ao1, .int .u32 av1, .int .u8 old1, .slice ba1 b1.length bc1, .slice aa1 a1.length ac1, .slice ra1 r1.length rc1, .int .u8 fl1] 77)) (((((w1.setCell ⟨w.heap.size+1,1,none⟩ (.int .u32 ao1)).setCell ⟨w.heap.size+1,2,none⟩ (.int .u32 av1)).setCell ⟨w.heap.size+1,3,none⟩ (.int .u8 old1)).setCell ⟨w.heap.size+1,4,none⟩ (.slice ba1 b1.length bc1)).setCell ⟨w.heap.size+1,5,none⟩ (.slice aa1 a1.length ac1)) from by exact eX)
  have HD:=Hm HZ2.out.drew
  have HE3:=Hm HE2.out.drew
  obtain ⟨w2,hw2⟩:∃w2,w2=(((((w1.setCell ⟨w.heap.size+1,1,none⟩ (.int .u32 ao1)).setCell ⟨w.heap.size+1,2,none⟩ (.int .u32 av1)).setCell ⟨w.heap.size+1,3,none⟩ (.int .u8 old1)).setCell ⟨w.heap.size+1,4,none⟩ (.slice ba1 b1.length bc1)).setCell ⟨w.heap.size+1,5,none⟩ (.slice aa1 a1.length ac1)).drew:=⟨_,rfl⟩
  rw [←hw2] at HD HE3⊢
  have HV2:=Hm ((Blk.new w #[.int .u8 k1, .int .u32 ao1, .int .u32 av1, .int .u8 old1, .slice ba1 b1.length bc1, .slice aa1 a1.length ac1, .slice ra1 r1.length rc1, .int .u8 fl1] 77).ext HE3.out)
  clear hw2 HZ2 HE2 gv gz gzf zv zz hE1
  have gv:=HV2.out.cell
  have gz:=HD.out.cell
  have zv:=HV2.out.lt
  have zz:=HD.out.lt
  have HEw:Hid (Ext w w2):=Hm (((Ext.refl w).alloc _).trans HE3.out)
  have HC:=Hm (HAK.out ⟨⟨k1,ao1,av1,old1,b1,a1, [],0⟩,ba1,bc1,aa1,ac1,none,0⟩ w2 HEw.out ⟨HX.out.1.b.ext HEw.out,HX.out.1.a.ext HEw.out,nilRef _⟩ ⟨HX.out.2.b,HX.out.2.a,Nat.zero_le _⟩)
  simp only at HC
  go_wp2_with (go_at_call 102;refine HC.out.mono ?_;rintro e w3 ⟨rfl,hb3⟩)
  go_ret
  exact ⟨ret_bool HR.out.symm,HEw.out.trans hb3⟩
 |false=>
  have HR:=Hm (show ownB (⟨k1,ao1,av1,old1,b1,a1,r1,fl1⟩:Ev)=evB (⟨k1,ao1,av1,old1,b1,a1,r1,fl1⟩:Ev) ⟨k1,0,0,0, [], [],r1,fl1⟩ from by unfold ownB Ev.only;rw [if_neg (by rw [hr];simp)])
  rw [hr] at HRW
  clear hr
  go_enter Tryz.func96,Tryz.ntmps96
  go_upto_region 4 with (go_at_call 68;refine (HRW.out _).mono ?_;rintro e w1 ⟨rfl,hb1⟩;have HB1:=Hm hb1;have hE_w1:Ext ((w.alloc (.cells #[.int .u8 k1, .int .u32 ao1, .int .u32 av1, .int .u8 old1, .slice ba1 b1.length bc1, .slice aa1 a1.length ac1, .slice ra1 r1.length rc1, .int .u8 fl1] 77)).alloc (.cells #[.int .u8 k1, .int .u32 0, .int .u32 0, .int .u8 0, .slice none 0 0, .slice none 0 0, .slice none 0 0, .int .u8 0] 77)) w1:=(by exact eX);obtain ⟨hc_w1,hf_w1⟩:=hE_w1.cells;have hz_w1:=hE_w1.size)
  have HW1:=Hm (((Ext.refl (w.alloc (.cells #[.int .u8 k1, .int .u32 ao1, .int .u32 av1, .int .u8 old1, .slice ba1 b1.length bc1, .slice aa1 a1.length ac1, .slice ra1 r1.length rc1, .int .u8 fl1] 77))).alloc (.cells #[.int .u8 k1, .int .u32 0, .int .u32 0, .int .u8 0, .slice none 0 0, .slice none 0 0, .slice none 0 0, .int .u8 0] 77)).trans HB1.out)
  have hV:Blk w1 w.heap.size #[.int .u8 k1, .int .u32 ao1, .int .u32 av1, .int .u8 old1, .slice ba1 b1.length bc1, .slice aa1 a1.length ac1, .slice ra1 r1.length rc1, .int .u8 fl1] 77:=(((Blk.new w #[.int .u8 k1, .int .u32 ao1, .int .u32 av1, .int .u8 old1, .slice ba1 b1.length bc1, .slice aa1 a1.length ac1, .slice ra1 r1.length rc1, .int .u8 fl1] 77).alloc _).ext HB1.out)
  have hZ:Blk w1 (w.heap.size+1) #[.int .u8 k1, .int .u32 0, .int .u32 0, .int .u8 0, .slice none 0 0, .slice none 0 0, .slice none 0 0, .int .u8 0] 77:=((Blk.new' (w:=w.alloc (.cells #[.int .u8 k1, .int .u32 ao1, .int .u32 av1, .int .u8 old1, .slice ba1 b1.length bc1, .slice aa1 a1.length ac1, .slice ra1 r1.length rc1, .int .u8 fl1] 77)) _ _ (by simp)).ext HB1.out)
  have HV:=Hm hV
  have HZ:=Hm hZ
  have gv:=hV.cell
  have gz:=hZ.cell
  have gzf:=hZ.frozen
  have zv:=hV.lt
  have zz:=hZ.lt
  have hE1:=HW1.out
  clear hV hZ hE_w1 hc_w1 hf_w1 hz_w1
  go_region_held3 (fun w' =>Ext (w.alloc (.cells #[.int .u8 k1, .int .u32 ao1, .int .u32 av1, .int .u8 old1, .slice ba1 b1.length bc1, .slice aa1 a1.length ac1, .slice ra1 r1.length rc1, .int .u8 fl1] 77)) w'∧(∀b o,b<(w.alloc (.cells #[.int .u8 k1, .int .u32 ao1, .int .u32 av1, .int .u8 old1, .slice ba1 b1.length bc1, .slice aa1 a1.length ac1, .slice ra1 r1.length rc1, .int .u8 fl1] 77)).heap.size→w'.cell? ⟨b,o,none⟩=(w.alloc (.cells #[.int .u8 k1, .int .u32 ao1, .int .u32 av1, .int .u8 old1, .slice ba1 b1.length bc1, .slice aa1 a1.length ac1, .slice ra1 r1.length rc1, .int .u8 fl1] 77)).cell? ⟨b,o,none⟩)∧(∀b o,b<(w.alloc (.cells #[.int .u8 k1, .int .u32 ao1, .int .u32 av1, .int .u8 old1, .slice ba1 b1.length bc1, .slice aa1 a1.length ac1, .slice ra1 r1.length rc1, .int .u8 fl1] 77)).heap.size→w'.frozen? ⟨b,o,none⟩=(w.alloc (.cells #[.int .u8 k1, .int .u32 ao1, .int .u32 av1, .int .u8 old1, .slice ba1 b1.length bc1, .slice aa1 a1.length ac1, .slice ra1 r1.length rc1, .int .u8 fl1] 77)).frozen? ⟨b,o,none⟩)) ((exact held_of (by exact eX))) (fail)
  have HZ2:=Hm (show Blk ((w1.setCell ⟨w.heap.size+1,6,none⟩ (.slice ra1 r1.length rc1)).setCell ⟨w.heap.size+1,7,none⟩ (.int .u8 fl1)) (w.heap.size+1) #[.int .u8 k1, .int .u32 0, .int .u32 0, .int .u8 0, .slice none 0 0, .slice none 0 0, .slice ra1 r1.length rc1, .int .u8 fl1] 77 from by
   have:=(HZ.out.set 6 (.slice ra1 r1.length rc1)).set 7 (.int .u8 fl1)
   simpa only [List.setIfInBounds_toArray,List.set_cons_zero,List.set_cons_succ] using this)
  have HE2:=Hm (show Ext (w.alloc (.cells #[.int .u8 k1, .int .u32 ao1, .int .u32 av1, .int .u8 old1, .slice ba1 b1.length bc1, .slice aa1 a1.length ac1, .slice ra1 r1.length rc1, .int .u8 fl1] 77)) ((w1.setCell ⟨w.heap.size+1,6,none⟩ (.slice ra1 r1.length rc1)).setCell ⟨w.heap.size+1,7,none⟩ (.int .u8 fl1)) from by exact eX)
  have HD:=Hm HZ2.out.drew
  have HE3:=Hm HE2.out.drew
  obtain ⟨w2,hw2⟩:∃w2,w2=((w1.setCell ⟨w.heap.size+1,6,none⟩ (.slice ra1 r1.length rc1)).setCell ⟨w.heap.size+1,7,none⟩ (.int .u8 fl1)).drew:=⟨_,rfl⟩
  rw [←hw2] at HD HE3⊢
  have HV2:=Hm ((Blk.new w #[.int .u8 k1, .int .u32 ao1, .int .u32 av1, .int .u8 old1, .slice ba1 b1.length bc1, .slice aa1 a1.length ac1, .slice ra1 r1.length rc1, .int .u8 fl1] 77).ext HE3.out)
  clear hw2 HZ2 HE2 gv gz gzf zv zz hE1
  have gv:=HV2.out.cell
  have gz:=HD.out.cell
  have zv:=HV2.out.lt
  have zz:=HD.out.lt
  have HEw:Hid (Ext w w2):=Hm (((Ext.refl w).alloc _).trans HE3.out)
  have HC:=Hm (HAK.out ⟨⟨k1,0,0,0, [], [],r1,fl1⟩,none,0,none,0,ra1,rc1⟩ w2 HEw.out ⟨nilRowP _,nilRowP _,HX.out.1.r.ext HEw.out⟩ ⟨Nat.zero_le _,Nat.zero_le _,HX.out.2.r⟩)
  simp only at HC
  go_wp2_with (go_at_call 102;refine HC.out.mono ?_;rintro e w3 ⟨rfl,hb3⟩)
  go_ret
  exact ⟨ret_bool HR.out.symm,HEw.out.trans hb3⟩
theorem trunc_any (x:EL) (N g:Nat) (c:Value) (ps:List RR) (w:World) (hx:x.at 5 K.pc w) (hs:x.e.small) (hc:Ca w N g c ps):
 Calls Tryz.prog 97 #[x.agg, .pointer (some ⟨g,0,none⟩)] w fun e w' =>e= .returned (.int .i64 (truncE x.e (ps.map RR.r)))∧Ext w w' :=by
 have HL:=Hm hx.r
 have HG:=Hm (fun o v W (h:Ext w W)=>cget_any N g c ps o v W (hc.ext h))
 have hn:=hs.r
 obtain ⟨⟨k1,ao1,av1,old1,b1,a1,r1,fl1⟩,ba1,bc1,aa1,ac1,ra1,rc1⟩:=x
 unfold EL.agg
 simp only at HL hn⊢
 clear hx hs hc
 by_cases h1:r1.length<1
 ·have HR:=Hm (show truncE (⟨k1,ao1,av1,old1,b1,a1,r1,fl1⟩:Ev) (ps.map RR.r)=17 from if_pos (.inl h1))
  go_enter Tryz.func97,Tryz.ntmps97
  go_wp2
  go_ret
  exact ⟨ret_int HR.out.symm,by exact eX⟩
 by_cases h8:8<r1.length
 ·have HR:=Hm (show truncE (⟨k1,ao1,av1,old1,b1,a1,r1,fl1⟩:Ev) (ps.map RR.r)=17 from if_pos (.inr h8))
  go_enter Tryz.func97,Tryz.ntmps97
  go_wp2
  go_ret
  exact ⟨ret_int HR.out.symm,by exact eX⟩
 have HR0:=Hm (show truncE (⟨k1,ao1,av1,old1,b1,a1,r1,fl1⟩:Ev) (ps.map RR.r)=if risB r1=false then 15 else if hasAll r1 (ps.map RR.r)=false then 10 else if 3<fl1 then 4 else 0 from if_neg (by simp only;omega))
 generalize truncE (⟨k1,ao1,av1,old1,b1,a1,r1,fl1⟩:Ev) (ps.map RR.r)=R at HR0⊢
 go_enter Tryz.func97,Tryz.ntmps97
 go_wp2
 go_loopw [6] (fun i wr=>∃k:Nat,k+1≤r1.length∧i= .int .i64 ((k:Int)+1)∧Hid (∀j (h:j+1<r1.length),j<k→aheadB r1[j].o r1[j].v r1[j+1].o r1[j+1].v=true)∧Hid (Blk wr w.heap.size #[.int .u8 k1, .int .u32 ao1, .int .u32 av1, .int .u8 old1, .slice ba1 b1.length bc1, .slice aa1 a1.length ac1, .slice ra1 r1.length rc1, .int .u8 fl1] 77)∧Hid (Ext w wr)) (fun i _=>r1.length - (intOf i).toNat)
 case atStart=>exact ⟨0,by omega,rfl,Hm (fun j _ h=>by omega),Hm (Blk.new _ _ _),Hm (by exact eX)⟩
 case round=>
  obtain ⟨k,hk,rfl,hrel,hX,hE⟩:=hrel
  have gv:=hX.out.cell
  have zv:=hX.out.lt
  by_cases hlt:k+1<r1.length
  ·have hlt0:k<r1.length:=by omega
   obtain ⟨o1,p1,rfl,hb1,hx1⟩:=HL.out.at_ (i:=k) (by simpa using hlt0)
   obtain ⟨f0,f1⟩:=Rf.at_ hlt0 hx1 hb1 hE.out
   obtain ⟨o2,p2,he2,hb2,hx2⟩:=HL.out.at_ (i:=k+1) (by simpa using hlt)
   simp only [Option.some.injEq,Addr.mk.injEq] at he2
   obtain ⟨rfl,rfl, -⟩:=he2
   obtain ⟨s0,s1⟩:=Rf.at_ hlt hx2 hb2 hE.out
   have hbw:o1<wr.heap.size:=Nat.lt_of_lt_of_le hb1 hE.out.size
   have HCP:=Hm (fun W=>compare_any r1[k].o r1[k].v r1[k+1].o r1[k+1].v W)
   have hcc:=cmpR_cases r1[k].o r1[k].v r1[k+1].o r1[k+1].v
   have q1:IntKind.i64.wrap (k:Int)=(k:Int):=IntWalk.i64_in _ (by omega)
   have q2:((k:Int)+1).toNat=k+1:=by omega
   have i1:(k:Int)<(r1.length:Int):=by omega
   have i2:(k:Int)+1<(r1.length:Int):=by omega
   have i3:(0:Int)≤(k:Int)+1:=by omega
   have i4:(0:Int)≤(k:Int):=by omega
   have i5:((k+1:Nat):Int)=(k:Int)+1:=by omega
   clear hx1 hx2
   cases hA:aheadB r1[k].o r1[k].v r1[k+1].o r1[k+1].v with
   |true=>
    have HA:=Hm hA
    have hneg:cmpR r1[k].o r1[k].v r1[k+1].o r1[k+1].v<0:=cmpR_neg.2 (of_decide_eq_true hA)
    obtain ⟨D,hD⟩:∃D,D=cmpR r1[k].o r1[k].v r1[k+1].o r1[k+1].v:=⟨_,rfl⟩
    rw [←hD] at HCP hneg
    have hdd:decide (0≤D)=false:=decide_eq_false (by omega)
    clear hA hD hcc hneg
    go_wp2
    go_region_held3 (fun w' =>Ext (wr) w'∧(∀b o,b<(wr).heap.size→w'.cell? ⟨b,o,none⟩=(wr).cell? ⟨b,o,none⟩)∧(∀b o,b<(wr).heap.size→w'.frozen? ⟨b,o,none⟩=(wr).frozen? ⟨b,o,none⟩)) ((exact held_of (by exact eX))) ((go_at_call 92;refine (HCP.out _).mono ?_;rintro e w2 ⟨rfl,hb2⟩))
    clear q1 q2
    go_wp2
    go_roundw
    case rel=>exact ⟨k+1,by omega,by go_num,Hm (fun j h hj=>by
     by_cases e:j=k
     ·subst e;exact HA.out
     ·exact hrel.out j h (by omega)),Hm (hX.out.ext (by exact eX)),Hm (hE.out.trans (by exact eX))⟩
    case measure=>simp [intOf];omega
   |false=>
    have HR:=Hm (show R=15 from by rw [HR0.out,if_pos (risB_no hlt hA)])
    have hneg:0≤cmpR r1[k].o r1[k].v r1[k+1].o r1[k+1].v:=by
     by_cases h:cmpR r1[k].o r1[k].v r1[k+1].o r1[k+1].v<0
     ·rw [show aheadB r1[k].o r1[k].v r1[k+1].o r1[k+1].v=true from decide_eq_true (cmpR_neg.1 h)] at hA;cases hA
     ·omega
    obtain ⟨D,hD⟩:∃D,D=cmpR r1[k].o r1[k].v r1[k+1].o r1[k+1].v:=⟨_,rfl⟩
    rw [←hD] at HCP hneg
    have hdd:decide (0≤D)=true:=decide_eq_true hneg
    clear hA hD hcc hneg
    go_wp2
    go_region_held3 (fun w' =>Ext (wr) w'∧(∀b o,b<(wr).heap.size→w'.cell? ⟨b,o,none⟩=(wr).cell? ⟨b,o,none⟩)∧(∀b o,b<(wr).heap.size→w'.frozen? ⟨b,o,none⟩=(wr).frozen? ⟨b,o,none⟩)) ((exact held_of (by exact eX))) ((go_at_call 92;refine (HCP.out _).mono ?_;rintro e w2 ⟨rfl,hb2⟩))
    clear q1 q2
    go_wp2
    go_ret
    exact ⟨ret_int HR.out.symm,hE.out.trans (by exact eX)⟩
  ·have HR1:=Hm (show R=if hasAll r1 (ps.map RR.r)=false then 10 else if 3<fl1 then 4 else 0 from by rw [HR0.out,if_neg (by rw [risB_true.2 (fun i h=>hrel.out i h (by omega))];simp)])
   clear HR0 hrel
   obtain ⟨wo,hwo⟩:∃x,x=wr:=⟨_,rfl⟩
   subst hwo
   go_wp2
   go_loopw [41] (fun i wr=>∃k:Nat,k≤r1.length∧i= .int .i64 k∧Hid (∀j (h:j<r1.length),j<k→hasR r1[j].o r1[j].v (ps.map RR.r)=true)∧Hid (Ext wo wr)) (fun i _=>r1.length - (intOf i).toNat)
   case atStart=>exact ⟨0,by omega,rfl,Hm (fun j _ h=>by omega),Hm (by exact eX)⟩
   case round=>
    obtain ⟨m,hm,rfl,hrel,hF⟩:=hrel
    have gv2:=(hX.out.ext hF.out).cell
    have zv2:=(hX.out.ext hF.out).lt
    clear gv zv
    by_cases hlt2:m<r1.length
    ·obtain ⟨o1,p1,rfl,hb1,hx1⟩:=HL.out.at_ (i:=m) (by simpa using hlt2)
     obtain ⟨f0,f1⟩:=Rf.at_ hlt2 hx1 hb1 (hE.out.trans hF.out)
     have hbw:o1<wr.heap.size:=Nat.lt_of_lt_of_le hb1 (hE.out.trans hF.out).size
     have HGT:=Hm (fun W (h:Ext wr W)=>HG.out r1[m].o r1[m].v W (hE.out.trans (hF.out.trans h)))
     clear hx1
     cases hA:hasR r1[m].o r1[m].v (ps.map RR.r) with
     |true=>
      have HA:=Hm hA
      rw [hA] at HGT
      clear hA
      go_wp2_with (go_at_call 36;refine (HGT.out _ (by exact eX)).mono ?_;rintro e w3 ⟨⟨⟨oid,ver,nm,id,cols⟩,qa,qc⟩,rfl, -, -,hb3⟩;(try unfold RR.agg);(try simp only))
      go_roundw
      case rel=>exact ⟨m+1,by omega,by go_num,Hm (fun j h hj=>by
       by_cases e:j=m
       ·subst e;exact HA.out
       ·exact hrel.out j h (by omega)),Hm (hF.out.trans (by exact eX))⟩
      case measure=>simp [intOf];omega
     |false=>
      have HR:=Hm (show R=10 from by rw [HR1.out,if_pos (hasAll_no hlt2 hA)])
      rw [hA] at HGT
      clear hA
      go_wp2_with (go_at_call 36;refine (HGT.out _ (by exact eX)).mono ?_;rintro e w3 ⟨⟨⟨oid,ver,nm,id,cols⟩,qa,qc⟩,rfl, -, -,hb3⟩;(try unfold RR.agg);(try simp only))
      go_ret
      exact ⟨ret_int HR.out.symm,hE.out.trans (hF.out.trans (by exact eX))⟩
    ·have HR2:=Hm (show R=if 3<fl1 then 4 else 0 from by rw [HR1.out,if_neg (by rw [hasAll_yes (fun i h=>hrel.out i h (by omega))];simp)])
     clear HR1 hrel
     by_cases h3:3<fl1
     ·have HR:=Hm (show R=4 from by rw [HR2.out,if_pos h3])
      go_wp2
      go_ret
      exact ⟨ret_int HR.out.symm,hE.out.trans hF.out⟩
     ·have HR:=Hm (show R=0 from by rw [HR2.out,if_neg h3])
      go_wp2
      go_ret
      exact ⟨ret_int HR.out.symm,hE.out.trans hF.out⟩
structure Ev.wk (e:Ev):Prop where
 b:∀c∈e.b,c.wk
 a:∀c∈e.a,c.wk
 old:0≤e.old
theorem eright_any (x:EL) (N g:Nat) (c:Value) (ps:List RR) (w:World) (hx:x.at 5 K.pc w) (hs:x.e.small) (hwk:x.e.wk) (hc:Ca w N g c ps):
 Calls Tryz.prog 67 #[x.agg, .pointer (some ⟨g,0,none⟩)] w fun e w' =>e= .returned (.int .i64 (evE x.e (ps.map RR.r)))∧Ext w w' :=by
 have HRW:=Hm (fun W=>rowed_any x W)
 have HOW:=Hm (fun W (h:Ext w W)=>pown13_any x W (hx.ext h) hs)
 have HTR:=Hm (fun W (h:Ext w W)=>trunc_any x N g c ps W (hx.ext h) hs (hc.ext h))
 have HG:=Hm (fun W (h:Ext w W)=>cget_any N g c ps x.e.ao x.e.av W (hc.ext h))
 have HGI:=Hm (fun (r:Rl) (h:getR x.e.ao x.e.av (ps.map RR.r)=some r) W (h2:Ext w W)=>cget_is (hc.ext h2) h)
 have HIM:=Hm (fun (r:Rl) (a2:Option Addr) (c2:Nat) (hr:r∈ps.map RR.r) W (h:Ext w W) (hl:Sl W (.slice a2 r.cols.length c2) 3 (r.cols.map Col.cells)) (hcp:r.cols.length≤c2)=>
  (show Calls Tryz.prog 98 #[.agg #[.int .u32 r.oid, .int .u32 r.ver, .string r.nm, .int .u8 r.id, .slice a2 r.cols.length c2], .int .u8 x.e.kind, .int .u8 x.e.old, .slice x.ba x.e.b.length x.bc, .slice x.aa x.e.a.length x.ac] W (fun e w' =>e= .returned (.int .i64 (imgE r x.e.kind x.e.old x.e.b x.e.a))∧Ext W w') from by
   obtain ⟨p,hp,rfl⟩:=List.mem_map.1 hr
   have hwb:=hc.wb p hp
   exact image_any x.e.kind x.e.old x.e.b x.e.a x.ba x.aa x.bc x.ac p.r.oid p.r.ver p.r.nm p.r.id p.r.cols a2 c2 W hl hcp (by have:=hc.n16 hp;omega) (hx.b.ext h) (hx.a.ext h) hs.b hs.a hwk.b hwk.a hwb.cs hwb.nm hwb.idn hwk.old))
 clear hx hs hwk hc
 obtain ⟨⟨k1,ao1,av1,old1,b1,a1,r1,fl1⟩,ba1,bc1,aa1,ac1,ra1,rc1⟩:=x
 unfold EL.agg at HRW HOW HTR⊢
 simp only at HRW HOW HTR HG HGI HIM⊢
 by_cases h0:k1<4∨7<k1
 ·have HR:=Hm (show evE (⟨k1,ao1,av1,old1,b1,a1,r1,fl1⟩:Ev) (ps.map RR.r)=7 from if_pos h0)
  have hr:rowedB k1=false:=decide_eq_false (by omega)
  have h7:(k1 !=7)=true:=by simp;omega
  rw [hr] at HRW
  clear hr h0
  go_enter Tryz.func67,Tryz.ntmps67
  go_wp2_with (go_at_call 68;refine (HRW.out _).mono ?_;rintro e w1 ⟨rfl,hb1⟩;have hE_w1:Ext (w.alloc (.cells #[.int .u8 k1, .int .u32 ao1, .int .u32 av1, .int .u8 old1, .slice ba1 b1.length bc1, .slice aa1 a1.length ac1, .slice ra1 r1.length rc1, .int .u8 fl1] 77)) w1:=(by exact eX);obtain ⟨hc_w1,hf_w1⟩:=hE_w1.cells;have hz_w1:=hE_w1.size)
  go_ret
  exact ⟨ret_int HR.out.symm,by exact eX⟩
 have HR0:=Hm (show evE (⟨k1,ao1,av1,old1,b1,a1,r1,fl1⟩:Ev) (ps.map RR.r)=_ from if_neg h0)
 simp only at HR0
 cases ho:ownB (⟨k1,ao1,av1,old1,b1,a1,r1,fl1⟩:Ev) with
 |false=>
  have HR:=Hm (show evE (⟨k1,ao1,av1,old1,b1,a1,r1,fl1⟩:Ev) (ps.map RR.r)=3 from by rw [HR0.out,if_pos ho])
  rw [ho] at HOW
  clear HR0 ho
  by_cases h7:k1=7
  ·have hr:rowedB k1=false:=decide_eq_false (by omega)
   have h7' :(k1 !=7)=false:=by simp;omega
   rw [hr] at HRW
   clear hr h0 h7
   go_enter Tryz.func67,Tryz.ntmps67
   go_wp2_with (first|(go_at_call 68;refine (HRW.out _).mono ?_;rintro e w1 ⟨rfl,hb1⟩;have hE_w1:Ext (w.alloc (.cells #[.int .u8 k1, .int .u32 ao1, .int .u32 av1, .int .u8 old1, .slice ba1 b1.length bc1, .slice aa1 a1.length ac1, .slice ra1 r1.length rc1, .int .u8 fl1] 77)) w1:=(by exact eX);obtain ⟨hc_w1,hf_w1⟩:=hE_w1.cells;have hz_w1:=hE_w1.size)|(go_at_call 96;refine (HOW.out _ (by exact eX)).mono ?_;rintro e w2 ⟨rfl,hb2⟩;(have hE_w2:Ext (w.alloc (.cells #[.int .u8 k1, .int .u32 ao1, .int .u32 av1, .int .u8 old1, .slice ba1 b1.length bc1, .slice aa1 a1.length ac1, .slice ra1 r1.length rc1, .int .u8 fl1] 77)) w2:=(by exact eX);obtain ⟨hc_w2,hf_w2⟩:=hE_w2.cells;have hz_w2:=hE_w2.size)))
   go_ret
   exact ⟨ret_int HR.out.symm,by exact eX⟩
  ·have hr:rowedB k1=true:=decide_eq_true (by omega)
   rw [hr] at HRW
   clear hr h0 h7
   go_enter Tryz.func67,Tryz.ntmps67
   go_wp2_with (first|(go_at_call 68;refine (HRW.out _).mono ?_;rintro e w1 ⟨rfl,hb1⟩;have hE_w1:Ext (w.alloc (.cells #[.int .u8 k1, .int .u32 ao1, .int .u32 av1, .int .u8 old1, .slice ba1 b1.length bc1, .slice aa1 a1.length ac1, .slice ra1 r1.length rc1, .int .u8 fl1] 77)) w1:=(by exact eX);obtain ⟨hc_w1,hf_w1⟩:=hE_w1.cells;have hz_w1:=hE_w1.size)|(go_at_call 96;refine (HOW.out _ (by exact eX)).mono ?_;rintro e w2 ⟨rfl,hb2⟩;(have hE_w2:Ext (w.alloc (.cells #[.int .u8 k1, .int .u32 ao1, .int .u32 av1, .int .u8 old1, .slice ba1 b1.length bc1, .slice aa1 a1.length ac1, .slice ra1 r1.length rc1, .int .u8 fl1] 77)) w2:=(by exact eX);obtain ⟨hc_w2,hf_w2⟩:=hE_w2.cells;have hz_w2:=hE_w2.size)))
   go_ret
   exact ⟨ret_int HR.out.symm,by exact eX⟩
 |true=>
 rw [ho] at HOW
 by_cases h7:k1=7
 ·have HR:=Hm (show evE (⟨k1,ao1,av1,old1,b1,a1,r1,fl1⟩:Ev) (ps.map RR.r)=truncE (⟨k1,ao1,av1,old1,b1,a1,r1,fl1⟩:Ev) (ps.map RR.r) from by rw [HR0.out,if_neg (by rw [ho];simp),if_pos h7])
  have hr:rowedB k1=false:=decide_eq_false (by omega)
  have h7' :(k1 !=7)=false:=by simp;omega
  have h7'' :(k1==7)=true:=by simp;omega
  rw [hr] at HRW
  clear hr h0 h7 HR0 ho
  go_enter Tryz.func67,Tryz.ntmps67
  go_wp2_with (first|(go_at_call 68;refine (HRW.out _).mono ?_;rintro e w1 ⟨rfl,hb1⟩;have hE_w1:Ext (w.alloc (.cells #[.int .u8 k1, .int .u32 ao1, .int .u32 av1, .int .u8 old1, .slice ba1 b1.length bc1, .slice aa1 a1.length ac1, .slice ra1 r1.length rc1, .int .u8 fl1] 77)) w1:=(by exact eX);obtain ⟨hc_w1,hf_w1⟩:=hE_w1.cells;have hz_w1:=hE_w1.size)|(go_at_call 96;refine (HOW.out _ (by exact eX)).mono ?_;rintro e w2 ⟨rfl,hb2⟩;(have hE_w2:Ext (w.alloc (.cells #[.int .u8 k1, .int .u32 ao1, .int .u32 av1, .int .u8 old1, .slice ba1 b1.length bc1, .slice aa1 a1.length ac1, .slice ra1 r1.length rc1, .int .u8 fl1] 77)) w2:=(by exact eX);obtain ⟨hc_w2,hf_w2⟩:=hE_w2.cells;have hz_w2:=hE_w2.size))|(go_at_call 97;refine (HTR.out _ (by exact eX)).mono ?_;rintro e w3 ⟨rfl,hb3⟩))
  go_ret
  exact ⟨ret_int HR.out.symm,by exact eX⟩
 have hr:rowedB k1=true:=decide_eq_true (by omega)
 have h7' :(k1==7)=false:=by simpa using h7
 rw [hr] at HRW
 rw [if_neg (by rw [ho];simp),if_neg h7] at HR0
 clear hr h0 h7 ho
 cases hg:getR ao1 av1 (ps.map RR.r) with
 |none=>
  have HR:=Hm (show evE (⟨k1,ao1,av1,old1,b1,a1,r1,fl1⟩:Ev) (ps.map RR.r)=10 from by rw [HR0.out,hg])
  have hh:hasR ao1 av1 (ps.map RR.r)=false:=getR_none.1 hg
  rw [hh] at HG
  clear hg hh HR0
  go_enter Tryz.func67,Tryz.ntmps67
  go_wp2_with (first|(go_at_call 68;refine (HRW.out _).mono ?_;rintro e w1 ⟨rfl,hb1⟩;have hE_w1:Ext (w.alloc (.cells #[.int .u8 k1, .int .u32 ao1, .int .u32 av1, .int .u8 old1, .slice ba1 b1.length bc1, .slice aa1 a1.length ac1, .slice ra1 r1.length rc1, .int .u8 fl1] 77)) w1:=(by exact eX);obtain ⟨hc_w1,hf_w1⟩:=hE_w1.cells;have hz_w1:=hE_w1.size)|(go_at_call 96;refine (HOW.out _ (by exact eX)).mono ?_;rintro e w2 ⟨rfl,hb2⟩;(have hE_w2:Ext (w.alloc (.cells #[.int .u8 k1, .int .u32 ao1, .int .u32 av1, .int .u8 old1, .slice ba1 b1.length bc1, .slice aa1 a1.length ac1, .slice ra1 r1.length rc1, .int .u8 fl1] 77)) w2:=(by exact eX);obtain ⟨hc_w2,hf_w2⟩:=hE_w2.cells;have hz_w2:=hE_w2.size))|(go_at_call 36;refine (HG.out _ (by exact eX)).mono ?_;rintro e w3 ⟨⟨⟨oid,ver,nm,id,cols⟩,qa,qc⟩,rfl, -, -,hb3⟩;(try unfold RR.agg);(try simp only)))
  go_ret
  exact ⟨ret_int HR.out.symm,by exact eX⟩
 |some r=>
  have HR:=Hm (show evE (⟨k1,ao1,av1,old1,b1,a1,r1,fl1⟩:Ev) (ps.map RR.r)=imgE r k1 old1 b1 a1 from by rw [HR0.out,hg])
  have HGI2:=Hm (HGI.out r hg)
  have HM:=Hm ((getR_some hg).1)
  have HIM2:=Hm (fun a2 c2=>HIM.out r a2 c2 HM.out)
  generalize imgE r k1 old1 b1 a1=R at HR HIM2
  obtain ⟨oid,ver,nm,id,cols⟩:=r
  simp only at HGI2 HIM2
  clear hg HR0 HGI HG
  go_enter Tryz.func67,Tryz.ntmps67
  go_wp2_with (first
   |(go_at_call 68;refine (HRW.out _).mono ?_;rintro e w1 ⟨rfl,hb1⟩;have hE_w1:Ext (w.alloc (.cells #[.int .u8 k1, .int .u32 ao1, .int .u32 av1, .int .u8 old1, .slice ba1 b1.length bc1, .slice aa1 a1.length ac1, .slice ra1 r1.length rc1, .int .u8 fl1] 77)) w1:=(by exact eX);obtain ⟨hc_w1,hf_w1⟩:=hE_w1.cells;have hz_w1:=hE_w1.size)
   |(go_at_call 96;refine (HOW.out _ (by exact eX)).mono ?_;rintro e w2 ⟨rfl,hb2⟩;(have hE_w2:Ext (w.alloc (.cells #[.int .u8 k1, .int .u32 ao1, .int .u32 av1, .int .u8 old1, .slice ba1 b1.length bc1, .slice aa1 a1.length ac1, .slice ra1 r1.length rc1, .int .u8 fl1] 77)) w2:=(by exact eX);obtain ⟨hc_w2,hf_w2⟩:=hE_w2.cells;have hz_w2:=hE_w2.size))
   |(go_at_call 36;refine (HGI2.out _ (by exact eX)).mono ?_;rintro e w3 ⟨⟨qr,qa,qc⟩,rfl,hqr,hqo,hb3⟩;simp only at hqr;subst hqr;have HQO:=Hm hqo;(have hE_w3:Ext (w.alloc (.cells #[.int .u8 k1, .int .u32 ao1, .int .u32 av1, .int .u8 old1, .slice ba1 b1.length bc1, .slice aa1 a1.length ac1, .slice ra1 r1.length rc1, .int .u8 fl1] 77)) w3:=(by exact eX);obtain ⟨hc_w3,hf_w3⟩:=hE_w3.cells;have hz_w3:=hE_w3.size);have z3:w.heap.size<w3.heap.size:=(by have:=hE_w3.size;simp at this;omega);clear hqo;(try simp only))
   |(go_at_call 98;refine (HIM2.out _ _ _ (by exact eX) (HQO.out.in.ext (by exact eX)) (owns_cap HQO.out)).mono ?_;rintro e w4 ⟨rfl,hb4⟩))
  go_ret
  exact ⟨ret_int HR.out.symm,by exact eX⟩
structure Msg where
 k:Int
 x:Int
 st:Int
 n:Int
 r:Rl
 e:Ev
def Rl0:Rl:=⟨0,0,⟨#[]⟩,0, []⟩
def Ev0:Ev:=⟨0,0,0,0, [], [], [],0⟩
def wkind (k:Int):Int:=if k=73 then 4 else if k=85 then 5 else if k=68 then 6 else if k=84 then 7 else 0
def wlet (k:Int):Bool:=decide (k=66∨k=67∨k=82∨0<wkind k)
noncomputable def msgB (a b:Msg):Bool:=decide (a.k=b.k∧a.x=b.x∧a.st=b.st∧a.n=b.n)&&rlB a.r b.r&&evB a.e b.e
theorem msgB_true {a b:Msg} :msgB a b=true↔a=b:=by
 unfold msgB
 rw [Bool.and_eq_true,Bool.and_eq_true,rlB_true,evB_true,decide_eq_true_eq]
 obtain ⟨k,x,st,n,r,e⟩:=a
 obtain ⟨k',x',st',n',r',e'⟩:=b
 simp only [Msg.mk.injEq]
 constructor
 ·rintro ⟨⟨⟨h1,h2,h3,h4⟩,h5⟩,h6⟩;exact ⟨h1,h2,h3,h4,h5,h6⟩
 ·rintro ⟨h1,h2,h3,h4,h5,h6⟩;exact ⟨⟨⟨h1,h2,h3,h4⟩,h5⟩,h6⟩
def Msg.own (m:Msg):Msg:=if m.k=66 then ⟨66,m.x,m.st,0,Rl0,Ev0⟩ else if m.k=67 then ⟨67,m.x,0,m.n,Rl0,Ev0⟩ else if m.k=82 then ⟨82,0,0,0,m.r,Ev0⟩ else ⟨m.k,0,0,0,Rl0,m.e⟩
noncomputable def msgE (m:Msg) (rs:List Rl):Int:=
 if wlet m.k=false then 7 else if msgB m m.own=false then 3 else if m.k=66∨m.k=67 then (if m.x=0 then 4 else 0) else if m.k=82 then m.r.right else if m.e.kind≠wkind m.k then 7 else evE m.e rs
def msgOf (e:Ev):Msg:=if e.kind=4 then ⟨73,0,0,0,Rl0,e⟩ else if e.kind=5 then ⟨85,0,0,0,Rl0,e⟩ else if e.kind=6 then ⟨68,0,0,0,Rl0,e⟩ else if e.kind=7 then ⟨84,0,0,0,Rl0,e⟩ else ⟨0,0,0,0,Rl0,Ev0⟩
def bodyW (m:Msg):List Int:=
 if m.k=66 then octs m.x 4++octs m.st 8 else if m.k=67 then octs m.x 4++octs m.n 4 else if m.k=82 then relW m.r else if m.k=84 then octs m.e.rs.length 1++(octs m.e.fl 1++refsW m.e.rs)
 else refW m.e.ao m.e.av++((if m.e.old=1 then imgW 75 m.e.b else if m.e.old=2 then imgW 79 m.e.b else [])++(if m.k=68 then [] else imgW 78 m.e.a))
noncomputable def msgW (m:Msg) (rs:List Rl):List Int:=if msgE m rs≠0 then [] else m.k::(octs (bodyW m).length 4++bodyW m)
theorem flatK_len (l:List K):(l.map K.pc).flatten.length=l.length*5:=by
 have:=flat_length 5 (l.map K.pc) (fun xs hxs=>by simp at hxs;obtain ⟨c,_,rfl⟩:=hxs;rfl)
 rwa [List.length_map] at this
theorem news_row {w:World} {b o:Nat} {l:List K} (h:∀i,i<l.length→∀j,j<5→w.cell? ⟨b,o+i*5+j,none⟩=((l.map K.pc).getD i [])[j]?):∀j u,((l.map K.pc).flatten)[j]? =some u→w.cell? ((⟨b,o,none⟩:Addr).add j)=some u:=by
 intro j u hj
 have hjl:j<l.length*5:=by
  rcases Nat.lt_or_ge j (l.length*5) with h|h
  ·exact h
  ·rw [List.getElem?_eq_none (by rw [flatK_len];exact h)] at hj;cases hj
 have hplain:(⟨b,o,none⟩:Addr).add j=⟨b,o+j,none⟩:=by unfold Addr.add;split<;>simp_all
 have hi:j / 5<l.length:=by omega
 have hq:=flat_get 5 (l.map K.pc) (fun xs hxs=>by simp at hxs;obtain ⟨c,_,rfl⟩:=hxs;rfl) (j / 5) (by simpa using hi) (j%5) (Nat.mod_lt _ (by decide))
 have hm:j / 5*5+j%5=j:=by omega
 rw [hm] at hq
 rw [hplain,←hj,hq,←h (j / 5) hi (j%5) (Nat.mod_lt _ (by decide)),Nat.add_assoc,hm]
theorem clonek_any (l:List K) (a:Option Addr) (cap:Nat) (w:World) (hl:Sl w (.slice a l.length cap) 5 (l.map K.pc)) (hlen:l.length≤1000):
 Calls Tryz.prog 99 #[.slice a l.length cap] w fun e w' =>∃a' cap',e= .returned (.slice a' l.length cap')∧w'.ownsRow w.heap.size 164 5 (.slice a' l.length cap') l.length ((l.map K.pc).flatten)∧Ext w w' :=by
 obtain ⟨i0,hi,hz0,hz1,hz2⟩:=info_parts Tryz.infoCellP
 have HL:=Hm hl
 clear hl
 cases a with
 |none=>
  have h0:l= []:=by
   obtain ⟨a,c,hv,h⟩:=HL.out
   simp only [Value.slice.injEq] at hv
   rcases h with h|⟨b,o,ha,_⟩
   ·simpa using h
   ·rw [←hv.1] at ha;cases ha
  obtain ⟨a,c,hv, -⟩:=HL.out
  subst h0
  clear HL hv
  go_enter Tryz.func99,Tryz.ntmps99
  go_wp2
  go_ret
  exact ⟨_,_,rfl,World.ownsRow_nil _ _ _ _,by exact eX⟩
 |some ad=>
  have hnews:∀j u,((l.map K.pc).flatten)[j]? =some u→(w.alloc (.cells #[] 164)).cell? (ad.add j)=some u:=by
   obtain ⟨a,c,hv,h⟩:=HL.out
   simp only [Value.slice.injEq] at hv
   obtain ⟨rfl, -, -⟩:=hv
   rcases h with h|⟨b,o,ha,hb,hc⟩
   ·have h0:l= []:=by simpa using h
    subst h0;intro j u hj;simp at hj
   ·cases ha
    refine news_row fun i hi j hj=> ?_
    have hE:Ext w (w.alloc (.cells #[] 164)):=(Ext.refl w).alloc _
    rw [hE.cells.1 b _ hb]
    exact hc i (by simpa using hi) j hj
  have HN:=Hm hnews
  clear HL hnews
  go_enter Tryz.func99,Tryz.ntmps99
  go_wp2_with (at_builtin;refine wpList_append_own _ rfl _ _ 74 rfl w.heap.size 164 i0 _ 5 56 Tryz.underlying74 hi hz0 hz1 hz2 rfl (by decide) (.slice (some ⟨w.heap.size,0,none⟩) 0 0) 0 [] rfl ?c0 _ l.length _ ((l.map K.pc).flatten) rfl (flatK_len l) HN.out ?c2 ?c3 ?c4 ?c5 ?_)
  case c0=>exact ⟨rfl, .inr ⟨_,0, #[],rfl,Nat.le_refl _,Blk.new w #[] _,Nat.le_refl _,Nat.zero_le _,rfl,rfl⟩⟩
  case c2=>intro u hu;rw [List.mem_flatten] at hu;obtain ⟨xs,hxs,hu⟩:=hu;rw [List.mem_map] at hxs;obtain ⟨c,_,rfl⟩:=hxs;simp [K.pc] at hu;rcases hu with rfl|rfl|rfl|rfl|rfl<;>rfl
  case c3=>unfold maxLen;omega
  case c4=>omega
  case c5=>simp
  intro v' w2 hown hgrow _
  have hown:w2.ownsRow w.heap.size 164 5 v' l.length ((l.map K.pc).flatten):=by simpa using hown
  have hE2:Ext w w2:=((Ext.refl w).alloc (.cells #[] 164)).grown (v:= .slice (some ⟨w.heap.size,0,none⟩) 0 0) (e:=164) (size:=5) (n:=0) (xs:= []) ⟨rfl, .inr ⟨_,0, #[],rfl,Nat.le_refl _,Blk.new w #[] _,Nat.le_refl _,Nat.zero_le _,rfl,rfl⟩⟩ hgrow
  obtain ⟨a',c',rfl⟩:=owns_shape hown
  have HO:=Hm hown
  have HE2:=Hm hE2
  clear hown hE2 hgrow
  go_wp2
  go_ret
  exact ⟨a',c',rfl,HO.out,HE2.out⟩
end Go.Proofs.YtgmphpccpfaapaaGreatDoor
