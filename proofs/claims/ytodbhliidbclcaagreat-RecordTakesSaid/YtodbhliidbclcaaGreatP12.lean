/-
What is wrong with an event: the program's rowed, own, truncate, Right.
-/
import Derived.Maps.AppendAt
import Derived.Test.YtodbhliidbclcaaGreatP11
set_option maxRecDepth 100000
set_option maxHeartbeats 16000000
namespace Go.Proofs.YtodbhliidbclcaaGreat
open Go.RowKit
def rowedB (k:Int):Bool:=decide (4≤k∧k≤6)
def Ev.only (e:Ev):Ev:=if rowedB e.kind=true then ⟨e.kind,e.ao,e.av,e.old,e.b,e.a, [],0⟩ else ⟨e.kind,0,0,0, [], [],e.rs,e.fl⟩
noncomputable def ownB (e:Ev):Bool:=evB e e.only
noncomputable def risB (l:List Rf):Bool:= @decide (∀i (h:i+1<l.length),aheadB l[i].o l[i].v l[i+1].o l[i+1].v=true) (Classical.propDecidable _)
theorem risB_true {l:List Rf} :risB l=true↔∀i (h:i+1<l.length),aheadB l[i].o l[i].v l[i+1].o l[i+1].v=true:=by unfold risB;simp
theorem risB_no {l:List Rf} {i:Nat} (h:i+1<l.length) (hn:aheadB l[i].o l[i].v l[i+1].o l[i+1].v=false):risB l=false:=by
 cases hr:risB l with
 |false=>rfl
 |true=>rw [risB_true.1 hr i h] at hn;cases hn
def hasAll (rs:List Rf) (l:List Rl):Bool:=rs.all (fun x=>hasR x.o x.v l)
theorem hasAll_no {rs:List Rf} {l:List Rl} {k:Nat} (hk:k<rs.length) (h:hasR rs[k].o rs[k].v l=false):hasAll rs l=false:=by
 unfold hasAll
 rw [List.all_eq_false]
 exact ⟨_,List.getElem_mem hk,by rw [h];simp⟩
theorem hasAll_yes {rs:List Rf} {l:List Rl} (h:∀k (hk:k<rs.length),hasR rs[k].o rs[k].v l=true):hasAll rs l=true:=by
 unfold hasAll
 rw [List.all_eq_true]
 intro x hx
 obtain ⟨k,hk,rfl⟩:=List.getElem_of_mem hx
 exact h k hk
noncomputable def truncE (e:Ev) (l:List Rl):Int:=if e.rs.length<1∨8<e.rs.length then 17 else if risB e.rs=false then 15 else if hasAll e.rs l=false then 10 else if 3<e.fl then 4 else 0
noncomputable def evE (e:Ev) (l:List Rl):Int:=
 if e.kind<4∨7<e.kind then 7 else if ownB e=false then 3 else if e.kind=7 then truncE e l else match getR e.ao e.av l with
  |none=>10
  |some r=>imgE r e.kind e.old e.b e.a
theorem rowed_any (x:EL) (w:World):Calls Tryz.prog 91 #[x.agg] w fun e w' =>e= .returned (.bool (rowedB x.e.kind))∧Ext w w' :=by
 obtain ⟨⟨k1,ao1,av1,old1,b1,a1,r1,fl1⟩,ba1,bc1,aa1,ac1,ra1,rc1⟩:=x
 unfold EL.agg
 simp only
 by_cases h4:4≤k1
 ·by_cases h6:k1≤6
  ·have HR:=Hm (show rowedB k1=true from decide_eq_true ⟨h4,h6⟩)
   go_enter Tryz.func91,Tryz.ntmps91
   go_wp2
   go_ret
   exact ⟨ret_bool HR.out.symm,by exact eX⟩
  ·have HR:=Hm (show rowedB k1=false from decide_eq_false (fun h=>h6 h.2))
   go_enter Tryz.func91,Tryz.ntmps91
   go_wp2
   go_ret
   exact ⟨ret_bool HR.out.symm,by exact eX⟩
 ·have HR:=Hm (show rowedB k1=false from decide_eq_false (fun h=>h4 h.1))
  go_enter Tryz.func91,Tryz.ntmps91
  go_wp2
  go_ret
  exact ⟨ret_bool HR.out.symm,by exact eX⟩
theorem nilRef (w:World):Sl w (.slice none 0 0) 2 (([]:List Rf).map Rf.cells):=⟨none,0,rfl, .inl rfl⟩
theorem nilRowP (w:World):Sl w (.slice none 0 0) 5 (([]:List K).map K.pc):=⟨none,0,rfl, .inl rfl⟩
theorem pown13_any (x:EL) (w:World) (hx:x.at 5 K.pc w) (hs:x.e.small):Calls Tryz.prog 92 #[x.agg] w fun e w' =>e= .returned (.bool (ownB x.e))∧Ext w w' :=by
 have HRW:=Hm (fun W=>rowed_any x W)
 have HAK:=Hm (fun y W (h:Ext w W) (h2:y.at 5 K.pc W) (h3:y.e.small)=>ealike_any x y W (hx.ext h) h2 hs h3)
 have HX:=Hm (And.intro hx hs)
 obtain ⟨⟨k1,ao1,av1,old1,b1,a1,r1,fl1⟩,ba1,bc1,aa1,ac1,ra1,rc1⟩:=x
 unfold EL.agg at HRW HAK⊢
 simp only at HRW HAK⊢
 clear hx hs
 cases hr:rowedB k1 with
 |true=>
  have HR:=Hm (show ownB (⟨k1,ao1,av1,old1,b1,a1,r1,fl1⟩:Ev)=evB (⟨k1,ao1,av1,old1,b1,a1,r1,fl1⟩:Ev) ⟨k1,ao1,av1,old1,b1,a1, [],0⟩ from by unfold ownB Ev.only;rw [if_pos hr])
  rw [hr] at HRW
  clear hr
  go_enter Tryz.func92,Tryz.ntmps92
  go_upto_region 3 with (go_at_call 91;refine (HRW.out _).mono ?_;rintro e w1 ⟨rfl,hb1⟩;have HB1:=Hm hb1;have hE_w1:Ext ((w.alloc (.cells #[.int .u8 k1, .int .u32 ao1, .int .u32 av1, .int .u8 old1, .slice ba1 b1.length bc1, .slice aa1 a1.length ac1, .slice ra1 r1.length rc1, .int .u8 fl1] 39)).alloc (.cells #[.int .u8 k1, .int .u32 0, .int .u32 0, .int .u8 0, .slice none 0 0, .slice none 0 0, .slice none 0 0, .int .u8 0] 39)) w1:=(by exact eX);obtain ⟨hc_w1,hf_w1⟩:=hE_w1.cells;have hz_w1:=hE_w1.size)
  have HW1:=Hm (((Ext.refl (w.alloc (.cells #[.int .u8 k1, .int .u32 ao1, .int .u32 av1, .int .u8 old1, .slice ba1 b1.length bc1, .slice aa1 a1.length ac1, .slice ra1 r1.length rc1, .int .u8 fl1] 39))).alloc (.cells #[.int .u8 k1, .int .u32 0, .int .u32 0, .int .u8 0, .slice none 0 0, .slice none 0 0, .slice none 0 0, .int .u8 0] 39)).trans HB1.out)
  have hV:Blk w1 w.heap.size #[.int .u8 k1, .int .u32 ao1, .int .u32 av1, .int .u8 old1, .slice ba1 b1.length bc1, .slice aa1 a1.length ac1, .slice ra1 r1.length rc1, .int .u8 fl1] 39:=(((Blk.new w #[.int .u8 k1, .int .u32 ao1, .int .u32 av1, .int .u8 old1, .slice ba1 b1.length bc1, .slice aa1 a1.length ac1, .slice ra1 r1.length rc1, .int .u8 fl1] 39).alloc _).ext HB1.out)
  have hZ:Blk w1 (w.heap.size+1) #[.int .u8 k1, .int .u32 0, .int .u32 0, .int .u8 0, .slice none 0 0, .slice none 0 0, .slice none 0 0, .int .u8 0] 39:=((Blk.new' (w:=w.alloc (.cells #[.int .u8 k1, .int .u32 ao1, .int .u32 av1, .int .u8 old1, .slice ba1 b1.length bc1, .slice aa1 a1.length ac1, .slice ra1 r1.length rc1, .int .u8 fl1] 39)) _ _ (by simp)).ext HB1.out)
  have HV:=Hm hV
  have HZ:=Hm hZ
  have gv:=hV.cell
  have gz:=hZ.cell
  have gzf:=hZ.frozen
  have zv:=hV.lt
  have zz:=hZ.lt
  have hE1:=HW1.out
  clear hV hZ hE_w1 hc_w1 hf_w1 hz_w1
  go_region_held3 (fun w' =>Ext (w.alloc (.cells #[.int .u8 k1, .int .u32 ao1, .int .u32 av1, .int .u8 old1, .slice ba1 b1.length bc1, .slice aa1 a1.length ac1, .slice ra1 r1.length rc1, .int .u8 fl1] 39)) w'∧(∀b o,b<(w.alloc (.cells #[.int .u8 k1, .int .u32 ao1, .int .u32 av1, .int .u8 old1, .slice ba1 b1.length bc1, .slice aa1 a1.length ac1, .slice ra1 r1.length rc1, .int .u8 fl1] 39)).heap.size→w'.cell? ⟨b,o,none⟩=(w.alloc (.cells #[.int .u8 k1, .int .u32 ao1, .int .u32 av1, .int .u8 old1, .slice ba1 b1.length bc1, .slice aa1 a1.length ac1, .slice ra1 r1.length rc1, .int .u8 fl1] 39)).cell? ⟨b,o,none⟩)∧(∀b o,b<(w.alloc (.cells #[.int .u8 k1, .int .u32 ao1, .int .u32 av1, .int .u8 old1, .slice ba1 b1.length bc1, .slice aa1 a1.length ac1, .slice ra1 r1.length rc1, .int .u8 fl1] 39)).heap.size→w'.frozen? ⟨b,o,none⟩=(w.alloc (.cells #[.int .u8 k1, .int .u32 ao1, .int .u32 av1, .int .u8 old1, .slice ba1 b1.length bc1, .slice aa1 a1.length ac1, .slice ra1 r1.length rc1, .int .u8 fl1] 39)).frozen? ⟨b,o,none⟩)) ((exact held_of (by exact eX))) (fail)
  have HZ2:=Hm (show Blk (((((w1.setCell ⟨w.heap.size+1,1,none⟩ (.int .u32 ao1)).setCell ⟨w.heap.size+1,2,none⟩ (.int .u32 av1)).setCell ⟨w.heap.size+1,3,none⟩ (.int .u8 old1)).setCell ⟨w.heap.size+1,4,none⟩ (.slice ba1 b1.length bc1)).setCell ⟨w.heap.size+1,5,none⟩ (.slice aa1 a1.length ac1)) (w.heap.size+1) #[.int .u8 k1, .int .u32 ao1, .int .u32 av1, .int .u8 old1, .slice ba1 b1.length bc1, .slice aa1 a1.length ac1, .slice none 0 0, .int .u8 0] 39 from by
   have:=((((HZ.out.set 1 (.int .u32 ao1)).set 2 (.int .u32 av1)).set 3 (.int .u8 old1)).set 4 (.slice ba1 b1.length bc1)).set 5 (.slice aa1 a1.length ac1)
   simpa only [List.setIfInBounds_toArray,List.set_cons_zero,List.set_cons_succ] using this)
  have HE2:=Hm (show Ext (w.alloc (.cells #[.int .u8 k1, .int .u32 ao1, .int .u32 av1, .int .u8 old1, .slice ba1 b1.length bc1, .slice aa1 a1.length ac1, .slice ra1 r1.length rc1, .int .u8 fl1] 39)) (((((w1.setCell ⟨w.heap.size+1,1,none⟩ (.int .u32 ao1)).setCell ⟨w.heap.size+1,2,none⟩ (.int .u32 av1)).setCell ⟨w.heap.size+1,3,none⟩ (.int .u8 old1)).setCell ⟨w.heap.size+1,4,none⟩ (.slice ba1 b1.length bc1)).setCell ⟨w.heap.size+1,5,none⟩ (.slice aa1 a1.length ac1)) from by exact eX)
  have HD:=Hm HZ2.out.drew
  have HE3:=Hm HE2.out.drew
  obtain ⟨w2,hw2⟩:∃w2,w2=(((((w1.setCell ⟨w.heap.size+1,1,none⟩ (.int .u32 ao1)).setCell ⟨w.heap.size+1,2,none⟩ (.int .u32 av1)).setCell ⟨w.heap.size+1,3,none⟩ (.int .u8 old1)).setCell ⟨w.heap.size+1,4,none⟩ (.slice ba1 b1.length bc1)).setCell ⟨w.heap.size+1,5,none⟩ (.slice aa1 a1.length ac1)).drew:=⟨_,rfl⟩
  rw [←hw2] at HD HE3⊢
  have HV2:=Hm ((Blk.new w #[.int .u8 k1, .int .u32 ao1, .int .u32 av1, .int .u8 old1, .slice ba1 b1.length bc1, .slice aa1 a1.length ac1, .slice ra1 r1.length rc1, .int .u8 fl1] 39).ext HE3.out)
  clear hw2 HZ2 HE2 gv gz gzf zv zz hE1
  have gv:=HV2.out.cell
  have gz:=HD.out.cell
  have zv:=HV2.out.lt
  have zz:=HD.out.lt
  have HEw:Hid (Ext w w2):=Hm (((Ext.refl w).alloc _).trans HE3.out)
  have HC:=Hm (HAK.out ⟨⟨k1,ao1,av1,old1,b1,a1, [],0⟩,ba1,bc1,aa1,ac1,none,0⟩ w2 HEw.out ⟨HX.out.1.b.ext HEw.out,HX.out.1.a.ext HEw.out,nilRef _⟩ ⟨HX.out.2.b,HX.out.2.a,Nat.zero_le _⟩)
  simp only at HC
  go_wp2_with (go_at_call 124;refine HC.out.mono ?_;rintro e w3 ⟨rfl,hb3⟩)
  go_ret
  exact ⟨ret_bool HR.out.symm,HEw.out.trans hb3⟩
 |false=>
  have HR:=Hm (show ownB (⟨k1,ao1,av1,old1,b1,a1,r1,fl1⟩:Ev)=evB (⟨k1,ao1,av1,old1,b1,a1,r1,fl1⟩:Ev) ⟨k1,0,0,0, [], [],r1,fl1⟩ from by unfold ownB Ev.only;rw [if_neg (by rw [hr];simp)])
  rw [hr] at HRW
  clear hr
  go_enter Tryz.func92,Tryz.ntmps92
  go_upto_region 4 with (go_at_call 91;refine (HRW.out _).mono ?_;rintro e w1 ⟨rfl,hb1⟩;have HB1:=Hm hb1;have hE_w1:Ext ((w.alloc (.cells #[.int .u8 k1, .int .u32 ao1, .int .u32 av1, .int .u8 old1, .slice ba1 b1.length bc1, .slice aa1 a1.length ac1, .slice ra1 r1.length rc1, .int .u8 fl1] 39)).alloc (.cells #[.int .u8 k1, .int .u32 0, .int .u32 0, .int .u8 0, .slice none 0 0, .slice none 0 0, .slice none 0 0, .int .u8 0] 39)) w1:=(by exact eX);obtain ⟨hc_w1,hf_w1⟩:=hE_w1.cells;have hz_w1:=hE_w1.size)
  have HW1:=Hm (((Ext.refl (w.alloc (.cells #[.int .u8 k1, .int .u32 ao1, .int .u32 av1, .int .u8 old1, .slice ba1 b1.length bc1, .slice aa1 a1.length ac1, .slice ra1 r1.length rc1, .int .u8 fl1] 39))).alloc (.cells #[.int .u8 k1, .int .u32 0, .int .u32 0, .int .u8 0, .slice none 0 0, .slice none 0 0, .slice none 0 0, .int .u8 0] 39)).trans HB1.out)
  have hV:Blk w1 w.heap.size #[.int .u8 k1, .int .u32 ao1, .int .u32 av1, .int .u8 old1, .slice ba1 b1.length bc1, .slice aa1 a1.length ac1, .slice ra1 r1.length rc1, .int .u8 fl1] 39:=(((Blk.new w #[.int .u8 k1, .int .u32 ao1, .int .u32 av1, .int .u8 old1, .slice ba1 b1.length bc1, .slice aa1 a1.length ac1, .slice ra1 r1.length rc1, .int .u8 fl1] 39).alloc _).ext HB1.out)
  have hZ:Blk w1 (w.heap.size+1) #[.int .u8 k1, .int .u32 0, .int .u32 0, .int .u8 0, .slice none 0 0, .slice none 0 0, .slice none 0 0, .int .u8 0] 39:=((Blk.new' (w:=w.alloc (.cells #[.int .u8 k1, .int .u32 ao1, .int .u32 av1, .int .u8 old1, .slice ba1 b1.length bc1, .slice aa1 a1.length ac1, .slice ra1 r1.length rc1, .int .u8 fl1] 39)) _ _ (by simp)).ext HB1.out)
  have HV:=Hm hV
  have HZ:=Hm hZ
  have gv:=hV.cell
  have gz:=hZ.cell
  have gzf:=hZ.frozen
  have zv:=hV.lt
  have zz:=hZ.lt
  have hE1:=HW1.out
  clear hV hZ hE_w1 hc_w1 hf_w1 hz_w1
  go_region_held3 (fun w' =>Ext (w.alloc (.cells #[.int .u8 k1, .int .u32 ao1, .int .u32 av1, .int .u8 old1, .slice ba1 b1.length bc1, .slice aa1 a1.length ac1, .slice ra1 r1.length rc1, .int .u8 fl1] 39)) w'∧(∀b o,b<(w.alloc (.cells #[.int .u8 k1, .int .u32 ao1, .int .u32 av1, .int .u8 old1, .slice ba1 b1.length bc1, .slice aa1 a1.length ac1, .slice ra1 r1.length rc1, .int .u8 fl1] 39)).heap.size→w'.cell? ⟨b,o,none⟩=(w.alloc (.cells #[.int .u8 k1, .int .u32 ao1, .int .u32 av1, .int .u8 old1, .slice ba1 b1.length bc1, .slice aa1 a1.length ac1, .slice ra1 r1.length rc1, .int .u8 fl1] 39)).cell? ⟨b,o,none⟩)∧(∀b o,b<(w.alloc (.cells #[.int .u8 k1, .int .u32 ao1, .int .u32 av1, .int .u8 old1, .slice ba1 b1.length bc1, .slice aa1 a1.length ac1, .slice ra1 r1.length rc1, .int .u8 fl1] 39)).heap.size→w'.frozen? ⟨b,o,none⟩=(w.alloc (.cells #[.int .u8 k1, .int .u32 ao1, .int .u32 av1, .int .u8 old1, .slice ba1 b1.length bc1, .slice aa1 a1.length ac1, .slice ra1 r1.length rc1, .int .u8 fl1] 39)).frozen? ⟨b,o,none⟩)) ((exact held_of (by exact eX))) (fail)
  have HZ2:=Hm (show Blk ((w1.setCell ⟨w.heap.size+1,6,none⟩ (.slice ra1 r1.length rc1)).setCell ⟨w.heap.size+1,7,none⟩ (.int .u8 fl1)) (w.heap.size+1) #[.int .u8 k1, .int .u32 0, .int .u32 0, .int .u8 0, .slice none 0 0, .slice none 0 0, .slice ra1 r1.length rc1, .int .u8 fl1] 39 from by
   have:=(HZ.out.set 6 (.slice ra1 r1.length rc1)).set 7 (.int .u8 fl1)
   simpa only [List.setIfInBounds_toArray,List.set_cons_zero,List.set_cons_succ] using this)
  have HE2:=Hm (show Ext (w.alloc (.cells #[.int .u8 k1, .int .u32 ao1, .int .u32 av1, .int .u8 old1, .slice ba1 b1.length bc1, .slice aa1 a1.length ac1, .slice ra1 r1.length rc1, .int .u8 fl1] 39)) ((w1.setCell ⟨w.heap.size+1,6,none⟩ (.slice ra1 r1.length rc1)).setCell ⟨w.heap.size+1,7,none⟩ (.int .u8 fl1)) from by exact eX)
  have HD:=Hm HZ2.out.drew
  have HE3:=Hm HE2.out.drew
  obtain ⟨w2,hw2⟩:∃w2,w2=((w1.setCell ⟨w.heap.size+1,6,none⟩ (.slice ra1 r1.length rc1)).setCell ⟨w.heap.size+1,7,none⟩ (.int .u8 fl1)).drew:=⟨_,rfl⟩
  rw [←hw2] at HD HE3⊢
  have HV2:=Hm ((Blk.new w #[.int .u8 k1, .int .u32 ao1, .int .u32 av1, .int .u8 old1, .slice ba1 b1.length bc1, .slice aa1 a1.length ac1, .slice ra1 r1.length rc1, .int .u8 fl1] 39).ext HE3.out)
  clear hw2 HZ2 HE2 gv gz gzf zv zz hE1
  have gv:=HV2.out.cell
  have gz:=HD.out.cell
  have zv:=HV2.out.lt
  have zz:=HD.out.lt
  have HEw:Hid (Ext w w2):=Hm (((Ext.refl w).alloc _).trans HE3.out)
  have HC:=Hm (HAK.out ⟨⟨k1,0,0,0, [], [],r1,fl1⟩,none,0,none,0,ra1,rc1⟩ w2 HEw.out ⟨nilRowP _,nilRowP _,HX.out.1.r.ext HEw.out⟩ ⟨Nat.zero_le _,Nat.zero_le _,HX.out.2.r⟩)
  simp only at HC
  go_wp2_with (go_at_call 124;refine HC.out.mono ?_;rintro e w3 ⟨rfl,hb3⟩)
  go_ret
  exact ⟨ret_bool HR.out.symm,HEw.out.trans hb3⟩
theorem trunc_any (x:EL) (N g:Nat) (c:Value) (ps:List RR) (w:World) (hx:x.at 5 K.pc w) (hs:x.e.small) (hc:Ca w N g c ps):
 Calls Tryz.prog 93 #[x.agg, .pointer (some ⟨g,0,none⟩)] w fun e w' =>e= .returned (.int .i64 (truncE x.e (ps.map RR.r)))∧Ext w w' :=by
 have HL:=Hm hx.r
 have HG:=Hm (fun o v W (h:Ext w W)=>cget_any N g c ps o v W (hc.ext h))
 have hn:=hs.r
 obtain ⟨⟨k1,ao1,av1,old1,b1,a1,r1,fl1⟩,ba1,bc1,aa1,ac1,ra1,rc1⟩:=x
 unfold EL.agg
 simp only at HL hn⊢
 clear hx hs hc
 by_cases h1:r1.length<1
 ·have HR:=Hm (show truncE (⟨k1,ao1,av1,old1,b1,a1,r1,fl1⟩:Ev) (ps.map RR.r)=17 from if_pos (.inl h1))
  go_enter Tryz.func93,Tryz.ntmps93
  go_wp2
  go_ret
  exact ⟨ret_int HR.out.symm,by exact eX⟩
 by_cases h8:8<r1.length
 ·have HR:=Hm (show truncE (⟨k1,ao1,av1,old1,b1,a1,r1,fl1⟩:Ev) (ps.map RR.r)=17 from if_pos (.inr h8))
  go_enter Tryz.func93,Tryz.ntmps93
  go_wp2
  go_ret
  exact ⟨ret_int HR.out.symm,by exact eX⟩
 have HR0:=Hm (show truncE (⟨k1,ao1,av1,old1,b1,a1,r1,fl1⟩:Ev) (ps.map RR.r)=if risB r1=false then 15 else if hasAll r1 (ps.map RR.r)=false then 10 else if 3<fl1 then 4 else 0 from if_neg (by simp only;omega))
 generalize truncE (⟨k1,ao1,av1,old1,b1,a1,r1,fl1⟩:Ev) (ps.map RR.r)=R at HR0⊢
 go_enter Tryz.func93,Tryz.ntmps93
 go_wp2
 go_loopw [6] (fun i wr=>∃k:Nat,k+1≤r1.length∧i= .int .i64 ((k:Int)+1)∧Hid (∀j (h:j+1<r1.length),j<k→aheadB r1[j].o r1[j].v r1[j+1].o r1[j+1].v=true)∧Hid (Blk wr w.heap.size #[.int .u8 k1, .int .u32 ao1, .int .u32 av1, .int .u8 old1, .slice ba1 b1.length bc1, .slice aa1 a1.length ac1, .slice ra1 r1.length rc1, .int .u8 fl1] 39)∧Hid (Ext w wr)) (fun i _=>r1.length - (intOf i).toNat)
 case atStart=>exact ⟨0,by omega,rfl,Hm (fun j _ h=>by omega),Hm (Blk.new _ _ _),Hm (by exact eX)⟩
 case round=>
  obtain ⟨k,hk,rfl,hrel,hX,hE⟩:=hrel
  have gv:=hX.out.cell
  have zv:=hX.out.lt
  by_cases hlt:k+1<r1.length
  ·have hlt0:k<r1.length:=by omega
   obtain ⟨o1,p1,rfl,hb1,hx1⟩:=HL.out.at_ (i:=k) (by simpa using hlt0)
   obtain ⟨f0,f1⟩:=Rf.at_ hlt0 hx1 hb1 hE.out
   obtain ⟨o2,p2,he2,hb2,hx2⟩:=HL.out.at_ (i:=k+1) (by simpa using hlt)
   simp only [Option.some.injEq,Addr.mk.injEq] at he2
   obtain ⟨rfl,rfl, -⟩:=he2
   obtain ⟨s0,s1⟩:=Rf.at_ hlt hx2 hb2 hE.out
   have hbw:o1<wr.heap.size:=Nat.lt_of_lt_of_le hb1 hE.out.size
   have HCP:=Hm (fun W=>compare_any r1[k].o r1[k].v r1[k+1].o r1[k+1].v W)
   have hcc:=cmpR_cases r1[k].o r1[k].v r1[k+1].o r1[k+1].v
   have q1:IntKind.i64.wrap (k:Int)=(k:Int):=IntWalk.i64_in _ (by omega)
   have q2:((k:Int)+1).toNat=k+1:=by omega
   have i1:(k:Int)<(r1.length:Int):=by omega
   have i2:(k:Int)+1<(r1.length:Int):=by omega
   have i3:(0:Int)≤(k:Int)+1:=by omega
   have i4:(0:Int)≤(k:Int):=by omega
   have i5:((k+1:Nat):Int)=(k:Int)+1:=by omega
   clear hx1 hx2
   cases hA:aheadB r1[k].o r1[k].v r1[k+1].o r1[k+1].v with
   |true=>
    have HA:=Hm hA
    have hneg:cmpR r1[k].o r1[k].v r1[k+1].o r1[k+1].v<0:=cmpR_neg.2 (of_decide_eq_true hA)
    obtain ⟨D,hD⟩:∃D,D=cmpR r1[k].o r1[k].v r1[k+1].o r1[k+1].v:=⟨_,rfl⟩
    rw [←hD] at HCP hneg
    have hdd:decide (0≤D)=false:=decide_eq_false (by omega)
    clear hA hD hcc hneg
    go_wp2
    go_region_held3 (fun w' =>Ext (wr) w'∧(∀b o,b<(wr).heap.size→w'.cell? ⟨b,o,none⟩=(wr).cell? ⟨b,o,none⟩)∧(∀b o,b<(wr).heap.size→w'.frozen? ⟨b,o,none⟩=(wr).frozen? ⟨b,o,none⟩)) ((exact held_of (by exact eX))) ((go_at_call 104;refine (HCP.out _).mono ?_;rintro e w2 ⟨rfl,hb2⟩))
    clear q1 q2
    go_wp2
    go_roundw
    case rel=>exact ⟨k+1,by omega,by go_num,Hm (fun j h hj=>by
     by_cases e:j=k
     ·subst e;exact HA.out
     ·exact hrel.out j h (by omega)),Hm (hX.out.ext (by exact eX)),Hm (hE.out.trans (by exact eX))⟩
    case measure=>simp [intOf];omega
   |false=>
    have HR:=Hm (show R=15 from by rw [HR0.out,if_pos (risB_no hlt hA)])
    have hneg:0≤cmpR r1[k].o r1[k].v r1[k+1].o r1[k+1].v:=by
     by_cases h:cmpR r1[k].o r1[k].v r1[k+1].o r1[k+1].v<0
     ·rw [show aheadB r1[k].o r1[k].v r1[k+1].o r1[k+1].v=true from decide_eq_true (cmpR_neg.1 h)] at hA;cases hA
     ·omega
    obtain ⟨D,hD⟩:∃D,D=cmpR r1[k].o r1[k].v r1[k+1].o r1[k+1].v:=⟨_,rfl⟩
    rw [←hD] at HCP hneg
    have hdd:decide (0≤D)=true:=decide_eq_true hneg
    clear hA hD hcc hneg
    go_wp2
    go_region_held3 (fun w' =>Ext (wr) w'∧(∀b o,b<(wr).heap.size→w'.cell? ⟨b,o,none⟩=(wr).cell? ⟨b,o,none⟩)∧(∀b o,b<(wr).heap.size→w'.frozen? ⟨b,o,none⟩=(wr).frozen? ⟨b,o,none⟩)) ((exact held_of (by exact eX))) ((go_at_call 104;refine (HCP.out _).mono ?_;rintro e w2 ⟨rfl,hb2⟩))
    clear q1 q2
    go_wp2
    go_ret
    exact ⟨ret_int HR.out.symm,hE.out.trans (by exact eX)⟩
  ·have HR1:=Hm (show R=if hasAll r1 (ps.map RR.r)=false then 10 else if 3<fl1 then 4 else 0 from by rw [HR0.out,if_neg (by rw [risB_true.2 (fun i h=>hrel.out i h (by omega))];simp)])
   clear HR0 hrel
   obtain ⟨wo,hwo⟩:∃x,x=wr:=⟨_,rfl⟩
   subst hwo
   go_wp2
   go_loopw [41] (fun i wr=>∃k:Nat,k≤r1.length∧i= .int .i64 k∧Hid (∀j (h:j<r1.length),j<k→hasR r1[j].o r1[j].v (ps.map RR.r)=true)∧Hid (Ext wo wr)) (fun i _=>r1.length - (intOf i).toNat)
   case atStart=>exact ⟨0,by omega,rfl,Hm (fun j _ h=>by omega),Hm (by exact eX)⟩
   case round=>
    obtain ⟨m,hm,rfl,hrel,hF⟩:=hrel
    have gv2:=(hX.out.ext hF.out).cell
    have zv2:=(hX.out.ext hF.out).lt
    clear gv zv
    by_cases hlt2:m<r1.length
    ·obtain ⟨o1,p1,rfl,hb1,hx1⟩:=HL.out.at_ (i:=m) (by simpa using hlt2)
     obtain ⟨f0,f1⟩:=Rf.at_ hlt2 hx1 hb1 (hE.out.trans hF.out)
     have hbw:o1<wr.heap.size:=Nat.lt_of_lt_of_le hb1 (hE.out.trans hF.out).size
     have HGT:=Hm (fun W (h:Ext wr W)=>HG.out r1[m].o r1[m].v W (hE.out.trans (hF.out.trans h)))
     clear hx1
     cases hA:hasR r1[m].o r1[m].v (ps.map RR.r) with
     |true=>
      have HA:=Hm hA
      rw [hA] at HGT
      clear hA
      go_wp2_with (go_at_call 52;refine (HGT.out _ (by exact eX)).mono ?_;rintro e w3 ⟨⟨⟨oid,ver,nm,id,cols⟩,qa,qc⟩,rfl, -, -,hb3⟩;(try unfold RR.agg);(try simp only))
      go_roundw
      case rel=>exact ⟨m+1,by omega,by go_num,Hm (fun j h hj=>by
       by_cases e:j=m
       ·subst e;exact HA.out
       ·exact hrel.out j h (by omega)),Hm (hF.out.trans (by exact eX))⟩
      case measure=>simp [intOf];omega
     |false=>
      have HR:=Hm (show R=10 from by rw [HR1.out,if_pos (hasAll_no hlt2 hA)])
      rw [hA] at HGT
      clear hA
      go_wp2_with (go_at_call 52;refine (HGT.out _ (by exact eX)).mono ?_;rintro e w3 ⟨⟨⟨oid,ver,nm,id,cols⟩,qa,qc⟩,rfl, -, -,hb3⟩;(try unfold RR.agg);(try simp only))
      go_ret
      exact ⟨ret_int HR.out.symm,hE.out.trans (hF.out.trans (by exact eX))⟩
    ·have HR2:=Hm (show R=if 3<fl1 then 4 else 0 from by rw [HR1.out,if_neg (by rw [hasAll_yes (fun i h=>hrel.out i h (by omega))];simp)])
     clear HR1 hrel
     by_cases h3:3<fl1
     ·have HR:=Hm (show R=4 from by rw [HR2.out,if_pos h3])
      go_wp2
      go_ret
      exact ⟨ret_int HR.out.symm,hE.out.trans hF.out⟩
     ·have HR:=Hm (show R=0 from by rw [HR2.out,if_neg h3])
      go_wp2
      go_ret
      exact ⟨ret_int HR.out.symm,hE.out.trans hF.out⟩
structure Ev.wk (e:Ev):Prop where
 b:∀c∈e.b,c.wk
 a:∀c∈e.a,c.wk
 old:0≤e.old
theorem eright_any (x:EL) (N g:Nat) (c:Value) (ps:List RR) (w:World) (hx:x.at 5 K.pc w) (hs:x.e.small) (hwk:x.e.wk) (hc:Ca w N g c ps):
 Calls Tryz.prog 68 #[x.agg, .pointer (some ⟨g,0,none⟩)] w fun e w' =>e= .returned (.int .i64 (evE x.e (ps.map RR.r)))∧Ext w w' :=by
 have HRW:=Hm (fun W=>rowed_any x W)
 have HOW:=Hm (fun W (h:Ext w W)=>pown13_any x W (hx.ext h) hs)
 have HTR:=Hm (fun W (h:Ext w W)=>trunc_any x N g c ps W (hx.ext h) hs (hc.ext h))
 have HG:=Hm (fun W (h:Ext w W)=>cget_any N g c ps x.e.ao x.e.av W (hc.ext h))
 have HGI:=Hm (fun (r:Rl) (h:getR x.e.ao x.e.av (ps.map RR.r)=some r) W (h2:Ext w W)=>cget_is (hc.ext h2) h)
 have HIM:=Hm (fun (r:Rl) (a2:Option Addr) (c2:Nat) (hr:r∈ps.map RR.r) W (h:Ext w W) (hl:Sl W (.slice a2 r.cols.length c2) 3 (r.cols.map Col.cells)) (hcp:r.cols.length≤c2)=>
  (show Calls Tryz.prog 94 #[.agg #[.int .u32 r.oid, .int .u32 r.ver, .string r.nm, .int .u8 r.id, .slice a2 r.cols.length c2], .int .u8 x.e.kind, .int .u8 x.e.old, .slice x.ba x.e.b.length x.bc, .slice x.aa x.e.a.length x.ac] W (fun e w' =>e= .returned (.int .i64 (imgE r x.e.kind x.e.old x.e.b x.e.a))∧Ext W w') from by
   obtain ⟨p,hp,rfl⟩:=List.mem_map.1 hr
   have hwb:=hc.wb p hp
   exact image_any x.e.kind x.e.old x.e.b x.e.a x.ba x.aa x.bc x.ac p.r.oid p.r.ver p.r.nm p.r.id p.r.cols a2 c2 W hl hcp (by have:=hc.n16 hp;omega) (hx.b.ext h) (hx.a.ext h) hs.b hs.a hwk.b hwk.a hwb.cs hwb.nm hwb.idn hwk.old))
 clear hx hs hwk hc
 obtain ⟨⟨k1,ao1,av1,old1,b1,a1,r1,fl1⟩,ba1,bc1,aa1,ac1,ra1,rc1⟩:=x
 unfold EL.agg at HRW HOW HTR⊢
 simp only at HRW HOW HTR HG HGI HIM⊢
 by_cases h0:k1<4∨7<k1
 ·have HR:=Hm (show evE (⟨k1,ao1,av1,old1,b1,a1,r1,fl1⟩:Ev) (ps.map RR.r)=7 from if_pos h0)
  have hr:rowedB k1=false:=decide_eq_false (by omega)
  have h7:(k1 !=7)=true:=by simp;omega
  rw [hr] at HRW
  clear hr h0
  go_enter Tryz.func68,Tryz.ntmps68
  go_wp2_with (go_at_call 91;refine (HRW.out _).mono ?_;rintro e w1 ⟨rfl,hb1⟩;have hE_w1:Ext (w.alloc (.cells #[.int .u8 k1, .int .u32 ao1, .int .u32 av1, .int .u8 old1, .slice ba1 b1.length bc1, .slice aa1 a1.length ac1, .slice ra1 r1.length rc1, .int .u8 fl1] 39)) w1:=(by exact eX);obtain ⟨hc_w1,hf_w1⟩:=hE_w1.cells;have hz_w1:=hE_w1.size)
  go_ret
  exact ⟨ret_int HR.out.symm,by exact eX⟩
 have HR0:=Hm (show evE (⟨k1,ao1,av1,old1,b1,a1,r1,fl1⟩:Ev) (ps.map RR.r)=_ from if_neg h0)
 simp only at HR0
 cases ho:ownB (⟨k1,ao1,av1,old1,b1,a1,r1,fl1⟩:Ev) with
 |false=>
  have HR:=Hm (show evE (⟨k1,ao1,av1,old1,b1,a1,r1,fl1⟩:Ev) (ps.map RR.r)=3 from by rw [HR0.out,if_pos ho])
  rw [ho] at HOW
  clear HR0 ho
  by_cases h7:k1=7
  ·have hr:rowedB k1=false:=decide_eq_false (by omega)
   have h7' :(k1 !=7)=false:=by simp;omega
   rw [hr] at HRW
   clear hr h0 h7
   go_enter Tryz.func68,Tryz.ntmps68
   go_wp2_with (first|(go_at_call 91;refine (HRW.out _).mono ?_;rintro e w1 ⟨rfl,hb1⟩;have hE_w1:Ext (w.alloc (.cells #[.int .u8 k1, .int .u32 ao1, .int .u32 av1, .int .u8 old1, .slice ba1 b1.length bc1, .slice aa1 a1.length ac1, .slice ra1 r1.length rc1, .int .u8 fl1] 39)) w1:=(by exact eX);obtain ⟨hc_w1,hf_w1⟩:=hE_w1.cells;have hz_w1:=hE_w1.size)|(go_at_call 92;refine (HOW.out _ (by exact eX)).mono ?_;rintro e w2 ⟨rfl,hb2⟩;(have hE_w2:Ext (w.alloc (.cells #[.int .u8 k1, .int .u32 ao1, .int .u32 av1, .int .u8 old1, .slice ba1 b1.length bc1, .slice aa1 a1.length ac1, .slice ra1 r1.length rc1, .int .u8 fl1] 39)) w2:=(by exact eX);obtain ⟨hc_w2,hf_w2⟩:=hE_w2.cells;have hz_w2:=hE_w2.size)))
   go_ret
   exact ⟨ret_int HR.out.symm,by exact eX⟩
  ·have hr:rowedB k1=true:=decide_eq_true (by omega)
   rw [hr] at HRW
   clear hr h0 h7
   go_enter Tryz.func68,Tryz.ntmps68
   go_wp2_with (first|(go_at_call 91;refine (HRW.out _).mono ?_;rintro e w1 ⟨rfl,hb1⟩;have hE_w1:Ext (w.alloc (.cells #[.int .u8 k1, .int .u32 ao1, .int .u32 av1, .int .u8 old1, .slice ba1 b1.length bc1, .slice aa1 a1.length ac1, .slice ra1 r1.length rc1, .int .u8 fl1] 39)) w1:=(by exact eX);obtain ⟨hc_w1,hf_w1⟩:=hE_w1.cells;have hz_w1:=hE_w1.size)|(go_at_call 92;refine (HOW.out _ (by exact eX)).mono ?_;rintro e w2 ⟨rfl,hb2⟩;(have hE_w2:Ext (w.alloc (.cells #[.int .u8 k1, .int .u32 ao1, .int .u32 av1, .int .u8 old1, .slice ba1 b1.length bc1, .slice aa1 a1.length ac1, .slice ra1 r1.length rc1, .int .u8 fl1] 39)) w2:=(by exact eX);obtain ⟨hc_w2,hf_w2⟩:=hE_w2.cells;have hz_w2:=hE_w2.size)))
   go_ret
   exact ⟨ret_int HR.out.symm,by exact eX⟩
 |true=>
 rw [ho] at HOW
 by_cases h7:k1=7
 ·have HR:=Hm (show evE (⟨k1,ao1,av1,old1,b1,a1,r1,fl1⟩:Ev) (ps.map RR.r)=truncE (⟨k1,ao1,av1,old1,b1,a1,r1,fl1⟩:Ev) (ps.map RR.r) from by rw [HR0.out,if_neg (by rw [ho];simp),if_pos h7])
  have hr:rowedB k1=false:=decide_eq_false (by omega)
  have h7' :(k1 !=7)=false:=by simp;omega
  have h7'' :(k1==7)=true:=by simp;omega
  rw [hr] at HRW
  clear hr h0 h7 HR0 ho
  go_enter Tryz.func68,Tryz.ntmps68
  go_wp2_with (first|(go_at_call 91;refine (HRW.out _).mono ?_;rintro e w1 ⟨rfl,hb1⟩;have hE_w1:Ext (w.alloc (.cells #[.int .u8 k1, .int .u32 ao1, .int .u32 av1, .int .u8 old1, .slice ba1 b1.length bc1, .slice aa1 a1.length ac1, .slice ra1 r1.length rc1, .int .u8 fl1] 39)) w1:=(by exact eX);obtain ⟨hc_w1,hf_w1⟩:=hE_w1.cells;have hz_w1:=hE_w1.size)|(go_at_call 92;refine (HOW.out _ (by exact eX)).mono ?_;rintro e w2 ⟨rfl,hb2⟩;(have hE_w2:Ext (w.alloc (.cells #[.int .u8 k1, .int .u32 ao1, .int .u32 av1, .int .u8 old1, .slice ba1 b1.length bc1, .slice aa1 a1.length ac1, .slice ra1 r1.length rc1, .int .u8 fl1] 39)) w2:=(by exact eX);obtain ⟨hc_w2,hf_w2⟩:=hE_w2.cells;have hz_w2:=hE_w2.size))|(go_at_call 93;refine (HTR.out _ (by exact eX)).mono ?_;rintro e w3 ⟨rfl,hb3⟩))
  go_ret
  exact ⟨ret_int HR.out.symm,by exact eX⟩
 have hr:rowedB k1=true:=decide_eq_true (by omega)
 have h7' :(k1==7)=false:=by simpa using h7
 rw [hr] at HRW
 rw [if_neg (by rw [ho];simp),if_neg h7] at HR0
 clear hr h0 h7 ho
 cases hg:getR ao1 av1 (ps.map RR.r) with
 |none=>
  have HR:=Hm (show evE (⟨k1,ao1,av1,old1,b1,a1,r1,fl1⟩:Ev) (ps.map RR.r)=10 from by rw [HR0.out,hg])
  have hh:hasR ao1 av1 (ps.map RR.r)=false:=getR_none.1 hg
  rw [hh] at HG
  clear hg hh HR0
  go_enter Tryz.func68,Tryz.ntmps68
  go_wp2_with (first|(go_at_call 91;refine (HRW.out _).mono ?_;rintro e w1 ⟨rfl,hb1⟩;have hE_w1:Ext (w.alloc (.cells #[.int .u8 k1, .int .u32 ao1, .int .u32 av1, .int .u8 old1, .slice ba1 b1.length bc1, .slice aa1 a1.length ac1, .slice ra1 r1.length rc1, .int .u8 fl1] 39)) w1:=(by exact eX);obtain ⟨hc_w1,hf_w1⟩:=hE_w1.cells;have hz_w1:=hE_w1.size)|(go_at_call 92;refine (HOW.out _ (by exact eX)).mono ?_;rintro e w2 ⟨rfl,hb2⟩;(have hE_w2:Ext (w.alloc (.cells #[.int .u8 k1, .int .u32 ao1, .int .u32 av1, .int .u8 old1, .slice ba1 b1.length bc1, .slice aa1 a1.length ac1, .slice ra1 r1.length rc1, .int .u8 fl1] 39)) w2:=(by exact eX);obtain ⟨hc_w2,hf_w2⟩:=hE_w2.cells;have hz_w2:=hE_w2.size))|(go_at_call 52;refine (HG.out _ (by exact eX)).mono ?_;rintro e w3 ⟨⟨⟨oid,ver,nm,id,cols⟩,qa,qc⟩,rfl, -, -,hb3⟩;(try unfold RR.agg);(try simp only)))
  go_ret
  exact ⟨ret_int HR.out.symm,by exact eX⟩
 |some r=>
  have HR:=Hm (show evE (⟨k1,ao1,av1,old1,b1,a1,r1,fl1⟩:Ev) (ps.map RR.r)=imgE r k1 old1 b1 a1 from by rw [HR0.out,hg])
  have HGI2:=Hm (HGI.out r hg)
  have HM:=Hm ((getR_some hg).1)
  have HIM2:=Hm (fun a2 c2=>HIM.out r a2 c2 HM.out)
  generalize imgE r k1 old1 b1 a1=R at HR HIM2
  obtain ⟨oid,ver,nm,id,cols⟩:=r
  simp only at HGI2 HIM2
  clear hg HR0 HGI HG
  go_enter Tryz.func68,Tryz.ntmps68
  go_wp2_with (first
   |(go_at_call 91;refine (HRW.out _).mono ?_;rintro e w1 ⟨rfl,hb1⟩;have hE_w1:Ext (w.alloc (.cells #[.int .u8 k1, .int .u32 ao1, .int .u32 av1, .int .u8 old1, .slice ba1 b1.length bc1, .slice aa1 a1.length ac1, .slice ra1 r1.length rc1, .int .u8 fl1] 39)) w1:=(by exact eX);obtain ⟨hc_w1,hf_w1⟩:=hE_w1.cells;have hz_w1:=hE_w1.size)
   |(go_at_call 92;refine (HOW.out _ (by exact eX)).mono ?_;rintro e w2 ⟨rfl,hb2⟩;(have hE_w2:Ext (w.alloc (.cells #[.int .u8 k1, .int .u32 ao1, .int .u32 av1, .int .u8 old1, .slice ba1 b1.length bc1, .slice aa1 a1.length ac1, .slice ra1 r1.length rc1, .int .u8 fl1] 39)) w2:=(by exact eX);obtain ⟨hc_w2,hf_w2⟩:=hE_w2.cells;have hz_w2:=hE_w2.size))
   |(go_at_call 52;refine (HGI2.out _ (by exact eX)).mono ?_;rintro e w3 ⟨⟨qr,qa,qc⟩,rfl,hqr,hqo,hb3⟩;simp only at hqr;subst hqr;have HQO:=Hm hqo;(have hE_w3:Ext (w.alloc (.cells #[.int .u8 k1, .int .u32 ao1, .int .u32 av1, .int .u8 old1, .slice ba1 b1.length bc1, .slice aa1 a1.length ac1, .slice ra1 r1.length rc1, .int .u8 fl1] 39)) w3:=(by exact eX);obtain ⟨hc_w3,hf_w3⟩:=hE_w3.cells;have hz_w3:=hE_w3.size);have z3:w.heap.size<w3.heap.size:=(by have:=hE_w3.size;simp at this;omega);clear hqo;(try simp only))
   |(go_at_call 94;refine (HIM2.out _ _ _ (by exact eX) (HQO.out.in.ext (by exact eX)) (owns_cap HQO.out)).mono ?_;rintro e w4 ⟨rfl,hb4⟩))
  go_ret
  exact ⟨ret_int HR.out.symm,by exact eX⟩
def refsBy (l:List Rf):List Int:=(l.map fun r=>sevens r.o.toNat++sevens r.v.toNat).flatten
theorem refsBy_snoc (l:List Rf) (r:Rf):refsBy (l++ [r])=refsBy l++(sevens r.o.toNat++sevens r.v.toNat):=by unfold refsBy;simp
structure Rf.u32 (r:Rf):Prop where
 o:0≤r.o∧r.o<4294967296
 v:0≤r.v∧r.v<4294967296
theorem sevens_u32 {x:Int} (h:x<4294967296):(sevens x.toNat).length≤10:=sevens_len10 (by
 have:(2:Nat) ^ 64=18446744073709551616:=by decide
 omega)
theorem refsBy_len {l:List Rf} (h:∀r∈l,r.u32):(refsBy l).length≤l.length*20:=by
 induction l with
 |nil=>exact Nat.le_refl _
 |cons r l ih=>
  have h1:=ih (fun y hy=>h y (List.mem_cons_of_mem _ hy))
  have h2:=sevens_u32 (h r (by simp)).o.2
  have h3:=sevens_u32 (h r (by simp)).v.2
  have e:refsBy (r::l)=(sevens r.o.toNat++sevens r.v.toNat)++refsBy l:=by unfold refsBy;simp
  rw [e,List.length_append,List.length_append,List.length_cons];omega
theorem refsBy_take {l:List Rf} (h:∀r∈l,r.u32) (k:Nat):(refsBy (l.take k)).length≤l.length*20:=by
 have h1:=refsBy_len (l:=l.take k) (fun r hr=>h r (List.mem_of_mem_take hr))
 have h2:(l.take k).length≤l.length:=by rw [List.length_take];omega
 exact Nat.le_trans h1 (Nat.mul_le_mul_right _ h2)
theorem putRefI_any (v:Value) (l:List Int) (r:Rf) (w:World) (hl:Sl w v 1 (l.map bcell)) (hlen:l.length≤900000) (hr:r.u32):
 Calls Tryz.prog 70 #[v, .agg #[.int .u32 r.o, .int .u32 r.v]] w fun e w' =>∃v',e= .returned v'∧OB w' w.heap.size v' (l++(sevens r.o.toNat++sevens r.v.toNat))∧Ext w w' :=by
 have h2:(2:Nat) ^ 32=4294967296:=by decide
 have:=hr.o
 have:=hr.v
 have h:=putRef_any v l r.o.toNat r.v.toNat w hl hlen (by omega) (by omega)
 rw [Int.toNat_of_nonneg hr.o.1,Int.toNat_of_nonneg hr.v.1] at h
 exact h
theorem recput7_any (x:EL) (ver:Int) (N g:Nat) (c:Value) (ps:List RR) (w:World) (hx:x.at 5 K.pc w) (hs:x.e.small) (hwk:x.e.wk) (hc:Ca w N g c ps) (hk:x.e.kind=7) (hz:evE x.e (ps.map RR.r)=0) (hn:x.e.rs.length≤8) (hr:∀r∈x.e.rs,r.u32) (hv:ver=1∨ver=2):
 Calls Tryz.prog 42 #[.pointer (some ⟨g,0,none⟩),x.agg, .int .u8 ver] w fun e w' =>∃v',e= .returned (.tuple #[v', .slice none 0 0, .int .i64 0])∧OB w' w.heap.size v' ((x.e.fl::sevens x.e.rs.length)++refsBy x.e.rs)∧Ext w w' :=by
 have HRG:=Hm (fun W (h:Ext w W)=>eright_any x N g c ps W (hx.ext h) hs hwk (hc.ext h))
 rw [hz] at HRG
 have HL:=Hm hx.r
 clear hx hs hwk hc hz
 obtain ⟨⟨k1,ao,av,old,b,a,rs,fl⟩,ba,bc,aa,ac,ra,rc⟩:=x
 unfold EL.agg at HRG⊢
 simp only at HRG HL hk hn hr⊢
 subst hk
 have HR:=Hm hr
 have HLN:=Hm (fun k=>refsBy_take hr k)
 have h64:rs.length<2 ^ 64:=by
  have:(2:Nat) ^ 64=18446744073709551616:=by decide
  omega
 have HS7:=Hm (sevens_len10 h64)
 have HN:=Hm (fun (w1:World)=>numbers_any (.slice (some ⟨w1.heap.size,0,none⟩) 1 1) [fl] [rs.length] (w1.heap.size+1) 1 ((w1.alloc (.cells #[.int .u8 fl] 5)).alloc (.cells #[.int .u64 rs.length] 70)) ((Sl.new w1 #[.int .u8 fl] 5 1 1 1 ([fl].map bcell) rfl (by intro xs hxs;simp at hxs;subst hxs;rfl) rfl).ext ((Ext.refl _).alloc _)) (by simp) (by intro z hz;simp at hz;subst hz;exact h64) (by simp) (by simp) (by simp) (fun i h=>by
  obtain rfl:i=0:=by simp at h;omega
  have hB:=(Blk.new' (w:=w1.alloc (.cells #[.int .u8 fl] 5)) #[.int .u64 rs.length] 70 (b:=w1.heap.size+1) (by simp)).cell
  rw [hB];rfl))
 have hrn:(rs.length:Int)<18446744073709551616:=by omega
 clear hr h64
 rcases hv with rfl|rfl
 all_goals
  go_enter Tryz.func42,Tryz.ntmps42
  go_upto_region 7 with (go_at_call 68;refine (HRG.out _ (by exact eX)).mono ?_;rintro e w1 ⟨rfl,hb1⟩;have HB1:=Hm hb1;have HE1:=Hm (((Ext.refl w).alloc _).trans hb1);have HV1:=Hm ((Blk.new w #[.int .u8 7, .int .u32 ao, .int .u32 av, .int .u8 old, .slice ba b.length bc, .slice aa a.length ac, .slice ra rs.length rc, .int .u8 fl] 39).ext hb1);have gv:=HV1.out.cell;have zv:=HV1.out.lt;clear hb1)
  go_upto_region 8 with (go_at_call 69;refine (HN.out w1).mono ?_;rintro e w2 ⟨v2,rfl,ho2,hb2⟩;have HO2:=Hm ho2;have HX2:=Hm ((((Ext.refl w1).alloc _).alloc _).trans hb2);clear ho2 hb2)
  rw [nums_one] at HO2
  have HO3:Hid (OB w2 w.heap.size v2 ((fl::sevens rs.length)++refsBy (rs.take 0))):=Hm (by
   rw [List.take_zero,show refsBy []= [] from rfl,List.append_nil]
   exact HO2.out.base (by have:=HE1.out.size;simp;omega))
  have HE2:=Hm (HE1.out.trans HX2.out)
  obtain ⟨a2,c2,rfl⟩:=HO3.out.shape
  obtain ⟨n2,hn2⟩:∃n,n=((fl::sevens rs.length)++refsBy (rs.take 0)).length:=⟨_,rfl⟩
  rw [←hn2] at HO3⊢
  clear gv zv hn2
  have gv:=(HV1.out.ext HX2.out).cell
  have zv:=(HV1.out.ext HX2.out).lt
  clear HO2 HN HRG HX2 HB1 HE1
  go_wp2
  clear gv zv
  go_loopg [10,44] rs.length (fun z v i wr=>∃(k:Nat),z+k=rs.length∧i= .int .i64 k∧Hid (OB wr w.heap.size v ((fl::sevens rs.length)++refsBy (rs.take k)))∧Hid (Ext w wr))
  case atStart=>exact ⟨0,by omega,rfl,HO3,HE2⟩
  case round=>
   obtain ⟨k,hzk,rfl,hO,hE⟩:=hrel
   by_cases hlt:k<rs.length
   ·obtain ⟨b1,o1,rfl,hb1,hx1⟩:=HL.out.at_ (i:=k) (by simpa using hlt)
    obtain ⟨f0,f1⟩:=Rf.at_ hlt hx1 hb1 hE.out
    have hbw:b1<wr.heap.size:=Nat.lt_of_lt_of_le hb1 hE.out.size
    have HTK:Hid (refsBy (rs.take (k+1))=refsBy (rs.take k)++(sevens rs[k].o.toNat++sevens rs[k].v.toNat)):=Hm (by rw [List.take_succ_eq_append_getElem hlt,refsBy_snoc])
    have HRK:=Hm (HR.out _ (List.getElem_mem hlt))
    obtain ⟨r,hre⟩:∃r,r=rs[k]:=⟨_,rfl⟩
    rw [←hre] at f0 f1 HTK HRK
    have HLT:=Hm hlt
    have hd1:decide (rs.length≤k)=false:=decide_eq_false (by omega)
    have hd2:decide ((rs.length:Int)≤(k:Int))=false:=decide_eq_false (by omega)
    clear hre hx1 hb1
    have HPR:=Hm (fun v W (h:Ext wr W) (ho:OB wr w.heap.size v ((fl::sevens rs.length)++refsBy (rs.take k)))=>putRefI_any v ((fl::sevens rs.length)++refsBy (rs.take k)) r W (ho.ext h).sl (by
     have h1:=HS7.out
     have h2:=HLN.out k
     rw [List.length_append,List.length_cons];omega) HRK.out)
    go_wp2_with (go_at_call 70;refine (HPR.out _ _ (by exact eX) hO.out).mono ?_;rintro e w3 ⟨v3,rfl,ho3,hb3⟩;have HO4:Hid (OB w3 w.heap.size v3 ((fl::sevens rs.length)++refsBy (rs.take (k+1)))):=Hm (by rw [HTK.out,←List.append_assoc];exact ho3.base (by have:=hE.out.size;simp;omega));have HE4:=Hm (show Ext wr w3 from by exact eX);clear ho3 hb3)
    go_roundg (rs.length - (k+1))
    case measure=>have:=HLT.out;omega
    case rel=>exact ⟨k+1,Nat.sub_add_cancel HLT.out,by go_num,HO4,Hm (hE.out.trans HE4.out)⟩
   ·obtain rfl:k=rs.length:=by omega
    rw [List.take_length] at hO
    obtain ⟨a4,c4,rfl⟩:=hO.out.shape
    go_wp2
    go_ret3
    exact ⟨_,rfl,hO.out,hE.out⟩
theorem flatK_len (l:List K):(l.map K.pc).flatten.length=l.length*5:=by
 have:=flat_length 5 (l.map K.pc) (fun xs hxs=>by simp at hxs;obtain ⟨c,_,rfl⟩:=hxs;rfl)
 rwa [List.length_map] at this
theorem news_row {w:World} {b o:Nat} {l:List K} (h:∀i,i<l.length→∀j,j<5→w.cell? ⟨b,o+i*5+j,none⟩=((l.map K.pc).getD i [])[j]?):∀j u,((l.map K.pc).flatten)[j]? =some u→w.cell? ((⟨b,o,none⟩:Addr).add j)=some u:=by
 intro j u hj
 have hjl:j<l.length*5:=by
  rcases Nat.lt_or_ge j (l.length*5) with h|h
  ·exact h
  ·rw [List.getElem?_eq_none (by rw [flatK_len];exact h)] at hj;cases hj
 have hplain:(⟨b,o,none⟩:Addr).add j=⟨b,o+j,none⟩:=by unfold Addr.add;split<;>simp_all
 have hi:j / 5<l.length:=by omega
 have hq:=flat_get 5 (l.map K.pc) (fun xs hxs=>by simp at hxs;obtain ⟨c,_,rfl⟩:=hxs;rfl) (j / 5) (by simpa using hi) (j%5) (Nat.mod_lt _ (by decide))
 have hm:j / 5*5+j%5=j:=by omega
 rw [hm] at hq
 rw [hplain,←hj,hq,←h (j / 5) hi (j%5) (Nat.mod_lt _ (by decide)),Nat.add_assoc,hm]
theorem clonek_any (l:List K) (a:Option Addr) (cap:Nat) (w:World) (hl:Sl w (.slice a l.length cap) 5 (l.map K.pc)) (hlen:l.length≤1000):
 Calls Tryz.prog 66 #[.slice a l.length cap] w fun e w' =>∃a' cap',e= .returned (.slice a' l.length cap')∧w'.ownsRow w.heap.size 157 5 (.slice a' l.length cap') l.length ((l.map K.pc).flatten)∧Ext w w' :=by
 obtain ⟨i0,hi,hz0,hz1,hz2⟩:=info_parts Tryz.infoCellP
 have HL:=Hm hl
 clear hl
 cases a with
 |none=>
  have h0:l= []:=by
   obtain ⟨a,c,hv,h⟩:=HL.out
   simp only [Value.slice.injEq] at hv
   rcases h with h|⟨b,o,ha,_⟩
   ·simpa using h
   ·rw [←hv.1] at ha;cases ha
  obtain ⟨a,c,hv, -⟩:=HL.out
  subst h0
  clear HL hv
  go_enter Tryz.func66,Tryz.ntmps66
  go_wp2
  go_ret
  exact ⟨_,_,rfl,World.ownsRow_nil _ _ _ _,by exact eX⟩
 |some ad=>
  have hnews:∀j u,((l.map K.pc).flatten)[j]? =some u→(w.alloc (.cells #[] 157)).cell? (ad.add j)=some u:=by
   obtain ⟨a,c,hv,h⟩:=HL.out
   simp only [Value.slice.injEq] at hv
   obtain ⟨rfl, -, -⟩:=hv
   rcases h with h|⟨b,o,ha,hb,hc⟩
   ·have h0:l= []:=by simpa using h
    subst h0;intro j u hj;simp at hj
   ·cases ha
    refine news_row fun i hi j hj=> ?_
    have hE:Ext w (w.alloc (.cells #[] 157)):=(Ext.refl w).alloc _
    rw [hE.cells.1 b _ hb]
    exact hc i (by simpa using hi) j hj
  have HN:=Hm hnews
  clear HL hnews
  go_enter Tryz.func66,Tryz.ntmps66
  go_wp2_with (at_builtin;refine wpList_append_own _ rfl _ _ 36 rfl w.heap.size 157 i0 _ 5 56 Tryz.underlying36 hi hz0 hz1 hz2 rfl (by decide) (.slice (some ⟨w.heap.size,0,none⟩) 0 0) 0 [] rfl ?c0 _ l.length _ ((l.map K.pc).flatten) rfl (flatK_len l) HN.out ?c2 ?c3 ?c4 ?c5 ?_)
  case c0=>exact ⟨rfl, .inr ⟨_,0, #[],rfl,Nat.le_refl _,Blk.new w #[] _,Nat.le_refl _,Nat.zero_le _,rfl,rfl⟩⟩
  case c2=>intro u hu;rw [List.mem_flatten] at hu;obtain ⟨xs,hxs,hu⟩:=hu;rw [List.mem_map] at hxs;obtain ⟨c,_,rfl⟩:=hxs;simp [K.pc] at hu;rcases hu with rfl|rfl|rfl|rfl|rfl<;>rfl
  case c3=>unfold maxLen;omega
  case c4=>omega
  case c5=>simp
  intro v' w2 hown hgrow _
  have hown:w2.ownsRow w.heap.size 157 5 v' l.length ((l.map K.pc).flatten):=by simpa using hown
  have hE2:Ext w w2:=((Ext.refl w).alloc (.cells #[] 157)).grown (v:= .slice (some ⟨w.heap.size,0,none⟩) 0 0) (e:=157) (size:=5) (n:=0) (xs:= []) ⟨rfl, .inr ⟨_,0, #[],rfl,Nat.le_refl _,Blk.new w #[] _,Nat.le_refl _,Nat.zero_le _,rfl,rfl⟩⟩ hgrow
  obtain ⟨a',c',rfl⟩:=owns_shape hown
  have HO:=Hm hown
  have HE2:=Hm hE2
  clear hown hE2 hgrow
  go_wp2
  go_ret
  exact ⟨a',c',rfl,HO.out,HE2.out⟩
theorem Ho.at_ {w wr:World} {b o:Nat} {l:List Ho} {k:Nat} (hk:k<l.length) (hc:∀j,j<2→w.cell? ⟨b,o+k*2+j,none⟩=((l.map Ho.cells).getD k [])[j]?) (hb:b<w.heap.size) (hE:Ext w wr):
 wr.cell? ⟨b,o+k*2,none⟩=some (.int .i64 l[k].c)∧wr.cell? ⟨b,o+k*2+1,none⟩=some (.int .i64 l[k].n):=by
 rw [getD_map Ho.cells l hk] at hc
 have c:=hE.cells.1 b
 exact ⟨(c _ hb).trans (hc 0 (by omega)),(c _ hb).trans (hc 1 (by omega))⟩
theorem str_at {w wr:World} {b o:Nat} {l:List ByteArray} {k:Nat} (hk:k<l.length) (hc:∀j,j<1→w.cell? ⟨b,o+k*1+j,none⟩=((l.map strC).getD k [])[j]?) (hb:b<w.heap.size) (hE:Ext w wr):
 wr.cell? ⟨b,o+k,none⟩=some (.string l[k]):=by
 rw [getD_map strC l hk] at hc
 have:=hc 0 (by omega)
 rw [Nat.mul_one,Nat.add_zero] at this
 exact (hE.cells.1 b _ hb).trans this
theorem RowAt.setText {W:World} {g:Nat} {ks:List K} (h:RowAt W g ks) {i:Nat} (hi:i<ks.length) (s:ByteArray):RowAt (W.setCell ⟨g,i*5+4,none⟩ (.string s)) g (Go.Proofs.YtodbhliidbclcaaGreat.setText ks i s):=by
 obtain ⟨cs,hb,hs,hx⟩:=h
 refine ⟨_,hb.set _ _,by rw [setText_len];simpa using hs,fun q hq j hj=> ?_⟩
 have hq2:q<ks.length:=by rwa [setText_len] at hq
 have e0:Go.Proofs.YtodbhliidbclcaaGreat.setText ks i s=ks.set i ⟨ks[i].k, { ks[i].v with s:=s }⟩:=by unfold Go.Proofs.YtodbhliidbclcaaGreat.setText;rw [dif_pos hi]
 have e1:(Go.Proofs.YtodbhliidbclcaaGreat.setText ks i s)[q]'hq=(ks.set i ⟨ks[i].k, { ks[i].v with s:=s }⟩)[q]'(by simpa using hq2):=by
  congr 1
 rw [e1,Array.getElem?_setIfInBounds]
 by_cases e:q=i
 ·subst e
  rw [List.getElem_set_self]
  have hx:=hx q hq2 j hj
  have:j=0∨j=1∨j=2∨j=3∨j=4:=by omega
  rcases this with rfl|rfl|rfl|rfl|rfl
  ·rw [if_neg (by omega),hx];rfl
  ·rw [if_neg (by omega),hx];rfl
  ·rw [if_neg (by omega),hx];rfl
  ·rw [if_neg (by omega),hx];rfl
  ·rw [if_pos rfl,if_pos (by omega)];rfl
 ·rw [List.getElem_set_ne (Ne.symm e),if_neg (by omega)]
  exact hx q hq2 j hj
def FillPost (l:List K) (hs:List Ho) (ts:List ByteArray) (w:World) (e:Ending) (w' :World):Prop:=
 ∃a' cap',e= .returned (.tuple #[.slice a' (fillW l hs ts).length cap', .int .i64 (fillE l hs ts)])∧Sl w' (.slice a' (fillW l hs ts).length cap') 5 ((fillW l hs ts).map K.pc)∧Ext w w'
def FillPostF (l:List K) (hs:List Ho) (ts:List ByteArray) (w:World) (e:Ending) (w' :World):Prop:=
 ∃a' cap',e= .returned (.tuple #[.slice a' (fillW l hs ts).length cap', .int .i64 (fillE l hs ts)])∧Sl w' (.slice a' (fillW l hs ts).length cap') 5 ((fillW l hs ts).map K.pc)∧Ext w w'∧(fillW l hs ts≠ []→∀b o,a' =some ⟨b,o,none⟩→w.heap.size≤b)
theorem FillPost.bad {l:List K} {hs:List Ho} {ts:List ByteArray} {w w' :World} {E:Int} (h:fillE l hs ts=E) (h0:E≠0) (hE:Ext w w'):FillPostF l hs ts w (.returned (.tuple #[.slice none 0 0, .int .i64 E])) w' :=by
 have:fillW l hs ts= []:=by unfold fillW;rw [if_neg (by rw [h];exact h0)]
 unfold FillPostF
 rw [this,h]
 exact ⟨none,0,rfl,⟨none,0,rfl, .inl rfl⟩,hE,fun h=>absurd rfl h⟩
theorem FillPost.ok {l:List K} {hs:List Ho} {ts:List ByteArray} {w w' :World} {m:List K} {a:Option Addr} {n cap:Nat} (h:fillE l hs ts=0) (hm:fillUp l hs ts hs.length=m) (hn:n=m.length) (hl:Sl w' (.slice a n cap) 5 (m.map K.pc)) (hE:Ext w w') (hF:m≠ []→∀b o,a=some ⟨b,o,none⟩→w.heap.size≤b):
 FillPostF l hs ts w (.returned (.tuple #[.slice a n cap, .int .i64 0])) w' :=by
 have:fillW l hs ts=m:=by unfold fillW;rw [if_pos h,hm]
 unfold FillPostF
 subst hn
 rw [this,h]
 exact ⟨a,cap,rfl,hl,hE,hF⟩
theorem fillE_len {l:List K} {hs:List Ho} {ts:List ByteArray} (h:hs.length≠ts.length):fillE l hs ts=17:=by unfold fillE;rw [if_pos h]
theorem fillE_hole {l:List K} {hs:List Ho} {ts:List ByteArray} (h:hs.length=ts.length) {k:Nat} (hk:k<hs.length) (hb:hs[k].c<0∨(l.length:Int)≤hs[k].c) (hp:∀j,j<k→holeBad l.length hs j=0):fillE l hs ts=4:=by
 have h4:holeBad l.length hs k=4:=by unfold holeBad;rw [dif_pos hk,if_pos hb]
 unfold fillE
 rw [if_neg (by simpa using h),if_pos (by rw [firstE_at hp hk (by rw [h4];decide),h4];decide)]
theorem fillE_size {l:List K} {hs:List Ho} {ts:List ByteArray} (h:hs.length=ts.length) (hA:∀j,j<hs.length→holeBad l.length hs j=0) {k:Nat} (hk:k<hs.length) (hk2:k<ts.length) (hb:(ts[k].size:Int)≠hs[k].n) (hp:∀j,j<k→sizeBad hs ts j=0):fillE l hs ts=16:=by
 have h4:sizeBad hs ts k=16:=by unfold sizeBad;rw [dif_pos ⟨hk,hk2⟩,if_pos hb]
 unfold fillE
 rw [if_neg (by simpa using h),if_neg (by rw [firstE_zero hA];decide),if_pos (by rw [firstE_at hp hk (by rw [h4];decide),h4];decide)]
theorem fillE_ok {l:List K} {hs:List Ho} {ts:List ByteArray} (h:hs.length=ts.length) (hA:∀j,j<hs.length→holeBad l.length hs j=0) (hB:∀j,j<hs.length→sizeBad hs ts j=0):fillE l hs ts=0:=by
 unfold fillE
 rw [if_neg (by simpa using h),if_neg (by rw [firstE_zero hA];decide),if_neg (by rw [firstE_zero hB];decide)]
theorem hole_ok {n:Nat} {hs:List Ho} {k:Nat} (hk:k<hs.length) (h:holeBad n hs k=0):0≤hs[k].c∧hs[k].c<n:=by
 unfold holeBad at h
 rw [dif_pos hk] at h
 by_cases h1:hs[k].c<0∨(n:Int)≤hs[k].c
 ·rw [if_pos h1] at h;cases h
 ·omega
theorem fill_anyF (l:List K) (hs:List Ho) (ts:List ByteArray) (a ah at' :Option Addr) (cap ch ct:Nat) (w:World) (hl:Sl w (.slice a l.length cap) 5 (l.map K.pc)) (hh:Sl w (.slice ah hs.length ch) 2 (hs.map Ho.cells)) (ht:Sl w (.slice at' ts.length ct) 1 (ts.map strC))
 (hlen:l.length≤1000) (hlen2:hs.length≤1000) (_hlen3:ts.length≤1000) (hsz:∀t∈ts,t.size≤9223372036854775807):
 Calls Tryz.prog 38 #[.slice a l.length cap, .slice ah hs.length ch, .slice at' ts.length ct] w (FillPostF l hs ts w):=by
 have HC:=Hm (fun W (h:Ext w W)=>clonek_any l a cap W (hl.ext h) hlen)
 have HH:=Hm hh
 have HT:=Hm ht
 have HSZ:=Hm hsz
 clear hl hh ht hsz
 by_cases hn:hs.length=ts.length
 case neg=>
  have hn' :(((hs.length:Nat):Int) !=((ts.length:Nat):Int))=true:=by simp;omega
  have HR:=Hm (fillE_len (l:=l) hn)
  clear hn
  go_enter Tryz.func38,Tryz.ntmps38
  go_wp2
  go_ret2
  exact FillPost.bad HR.out (by decide) (by exact eX)
 have hn' :(((hs.length:Nat):Int) !=((ts.length:Nat):Int))=false:=by simp;omega
 have HN:=Hm hn
 clear hn
 go_enter Tryz.func38,Tryz.ntmps38
 go_wp2_with (go_at_call 66;refine (HC.out _ (by exact eX)).mono ?_;rintro e w1 ⟨a',c',rfl,ho,hb1⟩;have HO:=Hm ho;have HE1:=Hm hb1;clear ho hb1)
 go_loopw [22] (fun i wr=>∃k:Nat,k≤hs.length∧i= .int .i64 k∧Hid (∀j,j<k→holeBad l.length hs j=0)∧Hid (Ext w1 wr)) (fun i _=>hs.length - (intOf i).toNat)
 case atStart=>exact ⟨0,Nat.zero_le _,rfl,Hm (fun j h=>by omega),Hm (Ext.refl _)⟩
 case round=>
  obtain ⟨k,hk,rfl,hrel,hE⟩:=hrel
  by_cases hlt:k<hs.length
  ·obtain ⟨b,o,rfl,hb,hx⟩:=HH.out.at_ (i:=k) (by simpa using hlt)
   obtain ⟨f0,f1⟩:=Ho.at_ hlt hx hb (HE1.out.trans hE.out)
   have hbw:b<wr.heap.size:=Nat.lt_of_lt_of_le hb (HE1.out.trans hE.out).size
   clear hx
   by_cases hbad:hs[k].c<0∨(l.length:Int)≤hs[k].c
   ·have HR:=Hm (fillE_hole HN.out hlt hbad hrel.out)
    obtain ⟨hk',hke⟩:∃hk',hk' =hs[k]:=⟨_,rfl⟩
    rw [←hke] at f0 f1 hbad
    clear hke
    go_wp2
    all_goals
     go_ret2
     exact FillPost.bad HR.out (by decide) (HE1.out.trans (by have hE:=hE.out;exact eX))
   ·have HZ:=Hm (show holeBad l.length hs k=0 by unfold holeBad;rw [dif_pos hlt,if_neg hbad])
    obtain ⟨j,hj⟩:∃j:Nat,hs[k].c=(j:Int):=⟨hs[k].c.toNat,by omega⟩
    rw [hj] at f0 hbad
    have hjl:j<l.length:=by omega
    clear hbad hj
    go_wp2
    go_roundw
    case rel=>exact ⟨k+1,by omega,by go_num,Hm (fun j hj=>by
     by_cases e:j=k
     ·subst e;exact HZ.out
     ·exact hrel.out j (by omega)),Hm (by have hE:=hE.out;exact eX)⟩
    case measure=>simp [intOf];omega
  ·obtain rfl:k=hs.length:=by omega
   have HA:=hrel
   have HW1:=hE
   have HE2:=Hm (HE1.out.trans hE.out)
   clear hrel hE
   by_cases h0:l.length=0
   ·have hh0:hs.length=0:=by
     rcases Nat.eq_zero_or_pos hs.length with h|h
     ·exact h
     ·have:=hole_ok h (HA.out 0 h);omega
    have HF:=Hm (fillE_ok HN.out HA.out (fun j hj=>by omega))
    go_wp2
    rename World=>wq
    go_loopw [39] (fun i w3=>i= .int .i64 0∧Hid (Ext wq w3)) (fun _ _=>0)
    case atStart=>exact ⟨rfl,Hm (Ext.refl _)⟩
    case round=>
     obtain ⟨rfl,hE⟩:=hrel
     go_wp2
     go_ret2
     have hl0:l= []:=List.length_eq_zero_iff.1 h0
     have hs0:hs= []:=List.length_eq_zero_iff.1 hh0
     subst hl0 hs0
     exact FillPost.ok HF.out rfl rfl ⟨a',c',rfl, .inl rfl⟩ (HE2.out.trans hE.out) (fun h=>absurd rfl h)
   obtain ⟨g,rfl,hcap,hgw⟩:∃g,a' =some ⟨g,0,none⟩∧l.length≤c'∧w.heap.size≤g:=by
    rcases HO.out.2 with ⟨-,h1⟩|⟨g,cap',cur,hv,hg, -,hn, -⟩
    ·exact absurd h1 h0
    ·simp only [Value.slice.injEq] at hv
     exact ⟨g,hv.1,owns_cap HO.out,hg⟩
   have HR0:=Hm ((RowAt.of_owns HO.out rfl).ext HW1.out)
   clear HO HW1 HC
   go_wp2
   rename World=>wq
   go_loopw [39] (fun i wr=>∃k:Nat,k≤hs.length∧i= .int .i64 k∧Hid (∀j,j<k→sizeBad hs ts j=0)∧Hid (RowAt wr g (fillUp l hs ts k))∧Hid (Ext w wr)) (fun i _=>hs.length - (intOf i).toNat)
   case atStart=>exact ⟨0,Nat.zero_le _,rfl,Hm (fun j h=>by omega),HR0,HE2⟩
   case round=>
    obtain ⟨k,hk,rfl,hrel,hr,hE⟩:=hrel
    by_cases hlt:k<hs.length
    ·have hlt2:k<ts.length:=by have:=HN.out;omega
     obtain ⟨b,o,rfl,hb,hx⟩:=HH.out.at_ (i:=k) (by simpa using hlt)
     obtain ⟨f0,f1⟩:=Ho.at_ hlt hx hb hE.out
     obtain ⟨b2,o2,rfl,hb2,hx2⟩:=HT.out.at_ (i:=k) (by simpa using hlt2)
     have p0:=str_at hlt2 hx2 hb2 hE.out
     have hbw:b<wr.heap.size:=Nat.lt_of_lt_of_le hb hE.out.size
     have hbw2:b2<wr.heap.size:=Nat.lt_of_lt_of_le hb2 hE.out.size
     have hsz:=HSZ.out _ (List.getElem_mem hlt2)
     have hok:=hole_ok hlt (HA.out k hlt)
     have HS:=Hm (fillUp_succ (l:=l) hlt hlt2)
     have HB:=Hm (fun (h:(ts[k].size:Int)≠hs[k].n)=>fillE_size (l:=l) HN.out HA.out hlt hlt2 h hrel.out)
     have HZ:=Hm (fun (h: ¬ (ts[k].size:Int)≠hs[k].n)=>show sizeBad hs ts k=0 by unfold sizeBad;rw [dif_pos ⟨hlt,hlt2⟩,if_neg h])
     obtain ⟨j,hj⟩:∃j:Nat,hs[k].c=(j:Int):=⟨hs[k].c.toNat,by omega⟩
     rw [hj] at f0 hok HS
     rw [Int.toNat_natCast] at HS
     have hjl:j<l.length:=by omega
     have hgl:=hr.out.lt
     have hgf:=hr.out.frozen
     have HJ:=Hm (show j<(fillUp l hs ts k).length by rw [fillUp_len];exact hjl)
     obtain ⟨old,hg4⟩:∃old,wr.cell? ⟨g,j*5+4,none⟩=some (.string old):=⟨_,(hr.out.cells HJ.out).2.2.2.2⟩
     obtain ⟨t,hte⟩:∃t,t=ts[k]:=⟨_,rfl⟩
     obtain ⟨q,hqe⟩:∃q,q=hs[k].n:=⟨_,rfl⟩
     rw [←hte] at p0 hsz HS HB HZ
     rw [←hqe] at f1 HB HZ
     clear hx hx2 hte hqe hj hok
     by_cases hbad:(t.size:Int)≠q
     ·have HR:=Hm (HB.out hbad)
      have hb' :(((t.size:Nat):Int) !=q)=true:=by simpa using hbad
      clear HB HZ hbad
      go_wp2
      go_region_held3 (fun w' =>Ext (wr.alloc (.cells #[.int .i64 j, .int .i64 q] 103)) w'∧(∀b o,b<(wr.alloc (.cells #[.int .i64 j, .int .i64 q] 103)).heap.size→w'.cell? ⟨b,o,none⟩=(wr.alloc (.cells #[.int .i64 j, .int .i64 q] 103)).cell? ⟨b,o,none⟩)∧(∀b o,b<(wr.alloc (.cells #[.int .i64 j, .int .i64 q] 103)).heap.size→w'.frozen? ⟨b,o,none⟩=(wr.alloc (.cells #[.int .i64 j, .int .i64 q] 103)).frozen? ⟨b,o,none⟩)) ((exact held_of (by exact eX))) (fail)
      go_wp2
      go_ret2
      exact FillPost.bad HR.out (by decide) (hE.out.trans (by exact eX))
     ·have HR:=Hm (HZ.out hbad)
      have hb' :(((t.size:Nat):Int) !=q)=false:=by simpa using hbad
      clear HB HZ hbad
      go_wp2
      go_region_held3 (fun w' =>Ext (wr.alloc (.cells #[.int .i64 j, .int .i64 q] 103)) w'∧(∀b o,b<(wr.alloc (.cells #[.int .i64 j, .int .i64 q] 103)).heap.size→w'.cell? ⟨b,o,none⟩=(wr.alloc (.cells #[.int .i64 j, .int .i64 q] 103)).cell? ⟨b,o,none⟩)∧(∀b o,b<(wr.alloc (.cells #[.int .i64 j, .int .i64 q] 103)).heap.size→w'.frozen? ⟨b,o,none⟩=(wr.alloc (.cells #[.int .i64 j, .int .i64 q] 103)).frozen? ⟨b,o,none⟩)) ((exact held_of (by exact eX))) (fail)
      go_wp2
      refine wp_region_head 7 (fun w' =>Ext (wr.alloc (.cells #[.int .i64 j, .int .i64 q] 103)) w'∧(∀b o,b<(wr.alloc (.cells #[.int .i64 j, .int .i64 q] 103)).heap.size→w'.cell? ⟨b,o,none⟩=(wr.alloc (.cells #[.int .i64 j, .int .i64 q] 103)).cell? ⟨b,o,none⟩)∧(∀b o,b<(wr.alloc (.cells #[.int .i64 j, .int .i64 q] 103)).heap.size→w'.frozen? ⟨b,o,none⟩=(wr.alloc (.cells #[.int .i64 j, .int .i64 q] 103)).frozen? ⟨b,o,none⟩)) (by kernel_rfl) (by decide) ?_
      have hA0:Hid ((fun w' =>Ext (wr.alloc (.cells #[.int .i64 j, .int .i64 q] 103)) w'∧(∀b o,b<(wr.alloc (.cells #[.int .i64 j, .int .i64 q] 103)).heap.size→w'.cell? ⟨b,o,none⟩=(wr.alloc (.cells #[.int .i64 j, .int .i64 q] 103)).cell? ⟨b,o,none⟩)∧(∀b o,b<(wr.alloc (.cells #[.int .i64 j, .int .i64 q] 103)).heap.size→w'.frozen? ⟨b,o,none⟩=(wr.alloc (.cells #[.int .i64 j, .int .i64 q] 103)).frozen? ⟨b,o,none⟩)) (wr.alloc (.cells #[.int .i64 j, .int .i64 q] 103)).drew.drew):=held_of (by exact eX)
      (refine wpHd_take (i:=0) (v:= ?_) rfl (by kernel_rfl) (by kernel_rfl) (by kernel_rfl) (fun _ _ _ h=>h) (Or.inl ⟨by rfl, ?_⟩) hA0.out ?_;rotate_left 1; · (intro w' hS';(obtain ⟨hEs',hcs',hfs'⟩:=hS');go_simp;try with_reducible rfl))
      (refine wpHd_take (i:=1) (v:= ?_) rfl (by kernel_rfl) (by kernel_rfl) (by kernel_rfl) (fun _ _ _ h=>h) (Or.inl ⟨by rfl, ?_⟩) hA0.out ?_;rotate_left 1; · (intro w' hS';(obtain ⟨hEs',hcs',hfs'⟩:=hS');go_simp;try with_reducible rfl))
      (refine wpHd_take (i:=2) (v:= ?_) rfl (by kernel_rfl) (by kernel_rfl) (by kernel_rfl) (fun _ _ _ h=>h) (Or.inl ⟨by rfl, ?_⟩) hA0.out ?_;rotate_left 1; · (intro w' hS';(obtain ⟨hEs',hcs',hfs'⟩:=hS');go_simp;try with_reducible rfl))
      (refine wpHd_take (i:=3) (v:= ?_) rfl (by kernel_rfl) (by kernel_rfl) (by kernel_rfl) (fun _ _ _ h=>h) (Or.inl ⟨by rfl, ?_⟩) hA0.out ?_;rotate_left 1; · (intro w' hS';(obtain ⟨hEs',hcs',hfs'⟩:=hS');go_simp;try with_reducible rfl))
      (refine wpHd_take (i:=4) (v:= ?_) rfl (by kernel_rfl) (by kernel_rfl) (by kernel_rfl) (fun _ _ _ h=>h) (Or.inl ⟨by rfl, ?_⟩) hA0.out ?_;rotate_left 1; · (intro w' hS';(obtain ⟨hEs',hcs',hfs'⟩:=hS');go_simp;try with_reducible rfl))
      (refine wpHd_take (i:=5) (v:= ?_) rfl (by kernel_rfl) (by kernel_rfl) (by kernel_rfl) (fun _ _ _ h=>h) (Or.inl ⟨by rfl, ?_⟩) hA0.out ?_;rotate_left 1; · (intro w' hS';(obtain ⟨hEs',hcs',hfs'⟩:=hS');go_simp;try with_reducible rfl))
      (refine wpHd_take (i:=6) (v:= ?_) rfl (by kernel_rfl) (by kernel_rfl) (by kernel_rfl) (fun _ _ _ h=>h) (Or.inl ⟨by rfl, ?_⟩) hA0.out ?_;rotate_left 1; · (intro w' hS';(obtain ⟨hEs',hcs',hfs'⟩:=hS');go_simp;try with_reducible rfl))
      refine wpHd_tail (by kernel_rfl) ?_
      simp only [List.drop_succ_cons,List.drop_zero]
      go_wp2
      go_roundw
      case rel=>exact ⟨k+1,by omega,by go_num,Hm (fun i hi=>by
       by_cases e:i=k
       ·subst e;exact HR.out
       ·exact hrel.out i (by omega)),Hm (by rw [HS.out];exact ((RowAt.setText hr.out HJ.out t).alloc _).drew.drew),Hm (by have hE:=hE.out;exact eX)⟩
      case measure=>simp [intOf];omega
    ·have hkk:k=hs.length:=by omega
     subst hkk
     have HF:=Hm (fillE_ok HN.out HA.out hrel.out)
     go_wp2
     go_ret2
     have h1:=hr.out.sl c'
     rw [fillUp_len] at h1
     exact FillPost.ok HF.out rfl (fillUp_len _ _ _ _).symm h1 hE.out (fun _ b o e=>by cases e;exact hgw)
theorem run_app_nil {P:Program} {w:World} (base:Nat) (t ty e:TypeId) (i:TypeInfo) (size:Nat) (ht:P.underlying t=some (.slice e)) (hi:P.info? e=some i)
 (v:Value) (n:Nat) (xs:List Value) (hown:w.ownsRow base e size v n xs) (c:Nat):(Builtin.append_ #[t,t] ty #[v, .slice none 0 c]).run P w= .ok v w:=by
 rcases hown.2 with ⟨rfl,rfl⟩|⟨g,cap,cur,rfl,_,_,hnc,_⟩
 ·simp [Builtin.append_,run_underlying ht,sizeOf,typeInfo,hi,Builtin.lenOf,Builtin.firstCells]
 ·simp [Builtin.append_,run_underlying ht,sizeOf,typeInfo,hi,Builtin.lenOf,Builtin.firstCells,hnc,storeCells]
theorem news_sl {w:World} {b o k:Nat} {xss:List (List Value)} (hk0:0<k) (hk:∀ys∈xss,ys.length=k) (h:∀i,i<xss.length→∀j,j<k→w.cell? ⟨b,o+i*k+j,none⟩=(xss.getD i [])[j]?):
 ∀j u,xss.flatten[j]? =some u→w.cell? ((⟨b,o,none⟩:Addr).add j)=some u:=by
 intro j u hj
 have hjl:j<xss.length*k:=by
  rcases Nat.lt_or_ge j (xss.length*k) with h|h
  ·exact h
  ·rw [List.getElem?_eq_none (by rw [flat_length k xss hk];exact h)] at hj;cases hj
 have hplain:(⟨b,o,none⟩:Addr).add j=⟨b,o+j,none⟩:=by unfold Addr.add;split<;>simp_all
 have hi:j / k<xss.length:=(Nat.div_lt_iff_lt_mul hk0).2 hjl
 have hq:=flat_get k xss hk (j / k) hi (j%k) (Nat.mod_lt _ hk0)
 have hm:j / k*k+j%k=j:=by rw [Nat.mul_comm];exact Nat.div_add_mod j k
 rw [hm] at hq
 rw [hplain,←hj,hq,←h (j / k) hi (j%k) (Nat.mod_lt _ hk0),Nat.add_assoc,hm]
theorem wpList_append_sl {P:Program} {w:World} {ops:Array Oper} {rest:List Oper} {o:Oper} {a:Act} {Q:Exit→Act→World→Prop} (hgd:o.guard=none) (s x:Operand) (t:TypeId)
 (ho:o.op= .call { callee:= .builtin .append,args:= #[s,x],argTypes:= #[t,t] })
 (base:Nat) (e:TypeId) (i:TypeInfo) (z:Value) (size bytes:Nat) (ht:P.underlying t=some (.slice e)) (hi:P.info? e=some i) (hz:i.zero=some z)
 (hsize:i.size=size) (hby:i.bytes=bytes) (hzs:z.cells.size=size) (hsz:0<size)
 (v:Value) (n:Nat) (xs:List Value) (hs:a.eval s=v) (hown:w.ownsRow base e size v n xs) (u:Value) (xss:List (List Value)) (hx:a.eval x=u) (hu:Sl w u size xss)
 (hk:∀ys∈xss,ys.length=size) (h1:∀y∈xss.flatten,y.oneCell' =true) (h63:n+xss.length≤maxLen) (hbytes:(n+xss.length)*bytes≤140737488355328) (hbase:base≤w.heap.size)
 (h:∀v' w',w'.ownsRow base e size v' (n+xss.length) (xs++xss.flatten)→w.grownBy w' v.ownBlock→(v'.ownBlock=v.ownBlock∨v'.ownBlock=some w.heap.size)→wpList P ops Q rest (a.put o.dst v') w'):wpList P ops Q (o::rest) a w:=by
 obtain ⟨A,cap,rfl,hcs⟩:=hu
 have key:∃v' w',(Builtin.append_ #[t,t] o.type #[v, .slice A xss.length cap]).run P w= .ok v' w'∧w'.ownsRow base e size v' (n+xss.length) (xs++xss.flatten)∧w.grownBy w' v.ownBlock∧(v'.ownBlock=v.ownBlock∨v'.ownBlock=some w.heap.size):=by
  rcases A with _|ad
  ·have h0:xss= []:=by
    rcases hcs with h|⟨b,o,e,_⟩
    ·exact h
    ·cases e
   subst h0
   exact ⟨v,w,run_app_nil base t o.type e i size ht hi v n xs hown cap,by simpa using hown,⟨rfl,rfl,rfl,Nat.le_refl _,fun _ _ _=>rfl⟩, .inl rfl⟩
  ·have hn:∀j u,xss.flatten[j]? =some u→w.cell? (ad.add j)=some u:=by
    rcases hcs with h|⟨b,o',e',_,hc⟩
    ·subst h;intro j u hj;simp at hj
    ·cases e'
     exact news_sl hsz hk hc
   obtain ⟨v',w',hr,h2,h3,_,h5⟩:=run_append_own_at (P:=P) w base t o.type e i z size bytes ht hi hz hsize hby hzs hsz v n xs hown ad xss.length cap xss.flatten (flat_length size xss hk) hn h1 h63 hbytes hbase
   exact ⟨v',w',hr,h2,h3,h5⟩
 obtain ⟨v',w',hrun,h2,h3,h4⟩:=key
 refine wpList_plain hgd fun K hK=> ?_
 unfold Oper.wp execOp
 simp only [ho,resolve,invoke,builtin,Sem.run_bind,Sem.run_pure,Result.andThen_ok,List.map_toArray,List.map_cons,List.map_nil,hs,hx,hrun]
 exact hK _ _ (h v' w' h2 h3 h4)
end Go.Proofs.YtodbhliidbclcaaGreat
