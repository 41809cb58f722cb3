/-
The reference's Take of a value.
-/
import Derived.Deep.CutBlock
import Derived.Test.YtodbhliidbclcaaGreatP22
set_option maxRecDepth 100000
set_option maxHeartbeats 16000000
namespace Go.Proofs.YtodbhliidbclcaaGreat
open Go.RowKit
theorem res45 {W:World} {g:Nat} {ty n:Int} {x y:Int} {s:ByteArray} {tm:Array Value} (h:Blk W g #[.int .u8 ty, .int .i64 n, .int .u64 x, .int .u64 y, .string s] 125) (ht:tm.getD 6 undef= .pointer (some ⟨g,0,none⟩)):
 (results Tryz.f119 tm).run Tryz.prog W= .ok (.agg #[.int .u8 ty, .int .i64 n, .int .u64 x, .int .u64 y, .string s]) W:=by
 have c:=h.cell
 have c0:=c 0
 have c1:=c 1
 have c2:=c 2
 have c3:=c 3
 have c4:=c 4
 clear c h
 simp at c0 c1 c2 c3 c4
 rw [Array.getD_eq_getD_getElem?] at ht
 simp [results,Tryz.results119,go_sem,ht,c0,c1,c2,c3,c4]
def FkRel (g d:Nat) (w:World) (V0:V) (S:RS) (wx:World):Prop:=
 Blk wx (w.heap.size+1) #[.int .u8 V0.ty, .int .i64 V0.n, .int .u64 V0.x, .int .u64 V0.y, .string V0.s] 125∧Blk wx w.heap.size #[.int .u8 0, .int .i64 0, .int .u64 0, .int .u64 0, .string ByteArray.empty] 125∧RF wx g d S∧Tch g w wx
theorem FkRel.mk' {g d:Nat} {w wx:World} {V0:V} {S:RS} {ty n:Int} {x y:Nat} {s:ByteArray} (hV:V0=⟨ty,n,x,y,s⟩) (h7:Blk wx (w.heap.size+1) #[.int .u8 ty, .int .i64 n, .int .u64 x, .int .u64 y, .string s] 125)
 (h6:Blk wx w.heap.size #[.int .u8 0, .int .i64 0, .int .u64 0, .int .u64 0, .string ByteArray.empty] 125) (hr:RF wx g d S) (ht:Tch g w wx):FkRel g d w V0 S wx:=by
 subst hV;exact ⟨h7,h6,hr,ht⟩
theorem FkRel.set {g d:Nat} {w w1:World} {V0:V} {S:RS} {ty n:Int} {x y:Nat} {s:ByteArray} {cs:Array Value} (i:Nat) (v:Value) (hV:V0=⟨ty,n,x,y,s⟩)
 (he:cs.setIfInBounds i v= #[.int .u8 ty, .int .i64 n, .int .u64 x, .int .u64 y, .string s]) (hg:g<w.heap.size)
 (h7:Blk w1 (w.heap.size+1) cs 125)
 (h6:Blk w1 w.heap.size #[.int .u8 0, .int .i64 0, .int .u64 0, .int .u64 0, .string ByteArray.empty] 125) (hr:RF w1 g d S) (ht:Tch g w w1):FkRel g d w V0 S (w1.setCell ⟨w.heap.size+1,i,none⟩ v):=by
 refine FkRel.mk' hV (by rw [←he];exact h7.set i v) (h6.other _ _ (by simp)) (hr.tch ((Tch.refl (w.heap.size+1) w1).set i v) (by omega) (.inr (by omega))) (ht.setNew (by omega) _ _)
theorem rtake_any (g d:Nat) (st:RS) (kind ver:Int) (w:World) (h:RF w g d st) (hk0:0≤kind) (hk1:kind<256):
 Calls Tryz.prog 119 #[.pointer (some ⟨g,0,none⟩), .int .u8 kind, .int .u8 ver] w (FPost g d w (.agg #[.int .u8 (takeV kind ver st).1.ty, .int .i64 (takeV kind ver st).1.n, .int .u64 (takeV kind ver st).1.x, .int .u64 (takeV kind ver st).1.y, .string (takeV kind ver st).1.s]) (takeV kind ver st).2):=by
 have H:=Hm h
 have hg:=h.lt
 have hok:=h.ok
 have hlen:st.l.length≤1000000:=by obtain ⟨_,_,_,_,_,_,hl,_,hlen⟩:=h;rw [hl];split<;>simp<;>omega
 clear h
 by_cases hv:ver=1∨ver=2
 ·have hsz:=preV_size (kind:=kind) (ver:=ver) hlen
  rw [takeV_eq]
  obtain ⟨V0,hV0⟩:∃V0,V0=(preV kind ver st).1:=⟨_,rfl⟩
  obtain ⟨S,hS⟩:∃S,S=(preV kind ver st).2:=⟨_,rfl⟩
  rw [←hV0,←hS]
  rw [←hV0] at hsz
  have hpre:preV kind ver st=bodyR kind ver st:=by unfold preV;rw [if_pos hv]
  rw [hpre] at hV0 hS
  have HV0:=Hm hV0
  have HS:=Hm hS
  clear hV0 hS hpre
  rcases hv with rfl|rfl
  ·skip
   go_enter Tryz.func119,Tryz.ntmps119
   go_upto_block 0 with (fail)
   go_cut [] (fun wx=>Hid (FkRel g d w V0 S wx))
   case first=>
    as_aux_lemma=>
     by_cases q1:kind=1
     ·subst q1
      have e:bodyR 1 1 st=(⟨1,(byteR st).1,0,0,ByteArray.empty⟩,(byteR st).2):=by rfl
      rw [e] at HV0 HS
      have HC:=Hm (fun w h=>fbyte_any g d st w h)
      have hb01:=byteR_rng hok
      generalize byteR st=U at*
      obtain ⟨b,S1⟩:=U
      simp only at HV0 HS HC
      clear e
      go_wp2_with (first
       |(go_at_call 26;refine (HC.out _ (H.out.ext (by exact eX))).mono ?_;rintro e w1 ⟨rfl,hr1,ht1⟩;have h7:=(Blk.new' (w:=w.alloc (.cells #[.int .u8 0, .int .i64 0, .int .u64 0, .int .u64 0, .string ByteArray.empty] 125)) (b:=w.heap.size+1) _ 125 (by simp)).tch ht1 (by omega);have h6:=((Blk.new w #[.int .u8 0, .int .i64 0, .int .u64 0, .int .u64 0, .string ByteArray.empty] 125).alloc _).tch ht1 (by omega);have HB7:=Hm h7;have HB6:=Hm h6;have k7:=h7.cell;have f7:=h7.frozen;have z7:=h7.lt;have HR1:=Hm hr1;have HT1:Hid (Tch g w w1):=Hm ((((Tch.refl g w).alloc _).alloc _).trans ht1);clear h7 h6 hr1 ht1))
      go_meet
      case rel=>
       have h:=FkRel.set 1 (.int .i64 b) HV0.out rfl hg HB7.out HB6.out (HS.out ▸ HR1.out) HT1.out
       exact h
     by_cases q2:kind=2
     ·subst q2
      have e:bodyR 2 1 st=(⟨2,toI64 (wordR st).1,0,0,ByteArray.empty⟩,(wordR st).2):=by rfl
      rw [e] at HV0 HS
      have HC:=Hm (fun w h=>fword_any g d st w h)
      have hlt:=wordR_lt hok
      generalize wordR st=U at*
      obtain ⟨b,S1⟩:=U
      simp only at HV0 HS HC
      clear e
      go_wp2_with (first
       |(go_at_call 155;refine (HC.out _ (H.out.ext (by exact eX))).mono ?_;rintro e w1 ⟨rfl,hr1,ht1⟩;have h7:=(Blk.new' (w:=w.alloc (.cells #[.int .u8 0, .int .i64 0, .int .u64 0, .int .u64 0, .string ByteArray.empty] 125)) (b:=w.heap.size+1) _ 125 (by simp)).tch ht1 (by omega);have h6:=((Blk.new w #[.int .u8 0, .int .i64 0, .int .u64 0, .int .u64 0, .string ByteArray.empty] 125).alloc _).tch ht1 (by omega);have HB7:=Hm h7;have HB6:=Hm h6;have k7:=h7.cell;have f7:=h7.frozen;have z7:=h7.lt;have HR1:=Hm hr1;have HT1:Hid (Tch g w w1):=Hm ((((Tch.refl g w).alloc _).alloc _).trans ht1);clear h7 h6 hr1 ht1))
      go_meet
      case rel=>
       have h:=FkRel.set 1 (.int .i64 (wrap64 b)) HV0.out (by rw [wrap_toI64 hlt];rfl) hg HB7.out HB6.out (HS.out ▸ HR1.out) HT1.out
       exact h
     by_cases q3:kind=3
     ·subst q3
      have e:bodyR 3 1 st=(⟨3,0,(floatR 1 st).1,0,ByteArray.empty⟩,(floatR 1 st).2):=by rfl
      rw [e] at HV0 HS
      have HC:=Hm (fun w h=>ftf_any g d st 1 w h)
      generalize floatR 1 st=U at*
      obtain ⟨b,S1⟩:=U
      simp only at HV0 HS HC
      clear e
      go_wp2_with (first
       |(go_at_call 157;refine (HC.out _ (H.out.ext (by exact eX))).mono ?_;rintro e w1 ⟨rfl,hr1,ht1⟩;have h7:=(Blk.new' (w:=w.alloc (.cells #[.int .u8 0, .int .i64 0, .int .u64 0, .int .u64 0, .string ByteArray.empty] 125)) (b:=w.heap.size+1) _ 125 (by simp)).tch ht1 (by omega);have h6:=((Blk.new w #[.int .u8 0, .int .i64 0, .int .u64 0, .int .u64 0, .string ByteArray.empty] 125).alloc _).tch ht1 (by omega);have HB7:=Hm h7;have HB6:=Hm h6;have k7:=h7.cell;have f7:=h7.frozen;have z7:=h7.lt;have HR1:=Hm hr1;have HT1:Hid (Tch g w w1):=Hm ((((Tch.refl g w).alloc _).alloc _).trans ht1);clear h7 h6 hr1 ht1))
      go_meet
      case rel=>
       have h:=FkRel.set 2 (.int .u64 b) HV0.out rfl hg HB7.out HB6.out (HS.out ▸ HR1.out) HT1.out
       exact h
     by_cases q4:kind=4
     ·subst q4
      have e:bodyR 4 1 st=(⟨4,0,(wordR st).1,(wordR (wordR st).2).1,ByteArray.empty⟩,(wordR (wordR st).2).2):=rfl
      rw [e] at HV0 HS
      have HC:=Hm (fun w h=>fword_any g d st w h)
      clear e
      generalize wordR st=U at*
      obtain ⟨b,S1⟩:=U
      simp only at HV0 HS HC
      have HC2:=Hm (fun w h=>fword_any g d S1 w h)
      generalize wordR S1=U at*
      obtain ⟨c,S2⟩:=U
      simp only at HV0 HS HC2
      go_upto_region 17 with (go_at_call 155;refine (HC.out _ (H.out.ext (by exact eX))).mono ?_;rintro e w1 ⟨rfl,hr1,ht1⟩;have h7:=(Blk.new' (w:=w.alloc (.cells #[.int .u8 0, .int .i64 0, .int .u64 0, .int .u64 0, .string ByteArray.empty] 125)) (b:=w.heap.size+1) _ 125 (by simp)).tch ht1 (by omega);have h6:=((Blk.new w #[.int .u8 0, .int .i64 0, .int .u64 0, .int .u64 0, .string ByteArray.empty] 125).alloc _).tch ht1 (by omega);have HB7:=Hm h7;have HB6:=Hm h6;have k7:=h7.cell;have f7:=h7.frozen;have z7:=h7.lt;have HR1:=Hm hr1;have HT1:Hid (Tch g w w1):=Hm ((((Tch.refl g w).alloc _).alloc _).trans ht1);clear h7 h6 hr1 ht1)
      have HX7:=Hm (HB7.out.set 2 (.int .u64 b));have j7:=HX7.out.cell;have e7:=HX7.out.frozen;have y7:=HX7.out.lt;have HX6:=Hm (HB6.out.other (a:=⟨w.heap.size+1,2,none⟩) (.int .u64 b) (by simp));have HRX:=Hm (HR1.out.tch ((Tch.refl (w.heap.size+1) w1).set 2 (.int .u64 b)) (by omega) (.inr (by omega)));have HTX:=Hm (HT1.out.setNew (h:=w.heap.size+1) (by omega) 2 (.int .u64 b))
      clear k7 f7 z7
      go_wp2_with (go_at_call 155;refine (HC2.out _ HRX.out).mono ?_;rintro e w2 ⟨rfl,hr2,ht2⟩;have h7:=HX7.out.tch ht2 (by omega);have h6:=HX6.out.tch ht2 (by omega);have HY7:=Hm h7;have HY6:=Hm h6;have k7:=h7.cell;have f7:=h7.frozen;have z7:=h7.lt;have HR2:=Hm hr2;have HT2:=Hm (HTX.out.trans ht2);clear h7 h6 hr2 ht2)
      go_meet
      case rel=>
       have h:=FkRel.set 3 (.int .u64 c) HV0.out rfl hg HY7.out HY6.out (HS.out ▸ HR2.out) HT2.out
       exact h
     by_cases q5:kind=5
     ·subst q5
      have e:bodyR 5 1 st=(⟨5,0,0,0,strOfNums (textR 2048 st).1⟩,(textR 2048 st).2):=by rfl
      rw [e] at HV0 HS
      have HC:=Hm (fun w h=>ftext_any g d st 2048 w h (by decide))
      generalize textR 2048 st=U at*
      obtain ⟨b,S1⟩:=U
      simp only at HV0 HS HC
      clear e
      go_wp2_with (first
       |(go_at_call 120;refine (HC.out _ (H.out.ext (by exact eX))).mono ?_;rintro e w1 ⟨rfl,hr1,ht1⟩;have h7:=(Blk.new' (w:=w.alloc (.cells #[.int .u8 0, .int .i64 0, .int .u64 0, .int .u64 0, .string ByteArray.empty] 125)) (b:=w.heap.size+1) _ 125 (by simp)).tch ht1 (by omega);have h6:=((Blk.new w #[.int .u8 0, .int .i64 0, .int .u64 0, .int .u64 0, .string ByteArray.empty] 125).alloc _).tch ht1 (by omega);have HB7:=Hm h7;have HB6:=Hm h6;have k7:=h7.cell;have f7:=h7.frozen;have z7:=h7.lt;have HR1:=Hm hr1;have HT1:Hid (Tch g w w1):=Hm ((((Tch.refl g w).alloc _).alloc _).trans ht1);clear h7 h6 hr1 ht1))
      go_meet
      case rel=>
       have h:=FkRel.set 4 (.string (strOfNums b)) HV0.out rfl hg HB7.out HB6.out (HS.out ▸ HR1.out) HT1.out
       exact h
     by_cases q6:kind=6
     ·subst q6
      have e:bodyR 6 1 st=(⟨6,0,0,0,strOfNums (textR 2048 st).1⟩,(textR 2048 st).2):=by rfl
      rw [e] at HV0 HS
      have HC:=Hm (fun w h=>ftext_any g d st 2048 w h (by decide))
      generalize textR 2048 st=U at*
      obtain ⟨b,S1⟩:=U
      simp only at HV0 HS HC
      clear e
      go_wp2_with (first
       |(go_at_call 120;refine (HC.out _ (H.out.ext (by exact eX))).mono ?_;rintro e w1 ⟨rfl,hr1,ht1⟩;have h7:=(Blk.new' (w:=w.alloc (.cells #[.int .u8 0, .int .i64 0, .int .u64 0, .int .u64 0, .string ByteArray.empty] 125)) (b:=w.heap.size+1) _ 125 (by simp)).tch ht1 (by omega);have h6:=((Blk.new w #[.int .u8 0, .int .i64 0, .int .u64 0, .int .u64 0, .string ByteArray.empty] 125).alloc _).tch ht1 (by omega);have HB7:=Hm h7;have HB6:=Hm h6;have k7:=h7.cell;have f7:=h7.frozen;have z7:=h7.lt;have HR1:=Hm hr1;have HT1:Hid (Tch g w w1):=Hm ((((Tch.refl g w).alloc _).alloc _).trans ht1);clear h7 h6 hr1 ht1))
      go_meet
      case rel=>
       have h:=FkRel.set 4 (.string (strOfNums b)) HV0.out rfl hg HB7.out HB6.out (HS.out ▸ HR1.out) HT1.out
       exact h
     have e:bodyR kind 1 st=(⟨kind,0,0,0,ByteArray.empty⟩,st):=by unfold bodyR;rw [if_neg q1,if_neg q2,if_neg q3,if_neg q4,if_neg (by rintro (h|h);exact q5 h;exact q6 h)]
     rw [e] at HV0 HS
     have r1:(kind==1)=false:=by simpa using q1
     have r2:(kind==2)=false:=by simpa using q2
     have r3:(kind==3)=false:=by simpa using q3
     have r4:(kind==4)=false:=by simpa using q4
     have r5:(kind==5)=false:=by simpa using q5
     have r6:(kind==6)=false:=by simpa using q6
     clear q1 q2 q3 q4 q5 q6 e
     go_wp2
     go_meet
     case rel=>
      exact FkRel.mk' HV0.out (Blk.new' (w:=w.alloc (.cells #[.int .u8 0, .int .i64 0, .int .u64 0, .int .u64 0, .string ByteArray.empty] 125)) (b:=w.heap.size+1) _ 125 (by simp)) ((Blk.new w #[.int .u8 0, .int .i64 0, .int .u64 0, .int .u64 0, .string ByteArray.empty] 125).alloc _) (by rw [HS.out];exact H.out.ext (by exact eX)) (((Tch.refl g w).alloc _).alloc _)
   case rest=>
    as_aux_lemma=>
     obtain ⟨h7,h6,hr,ht⟩:=hcut.out
     clear hcut
     have HRt:=Hm (fun w=>rright_any V0.ty V0.n V0.x V0.y V0.s w (by omega))
     obtain ⟨R,hR⟩:∃R,R=rightV V0.ty V0.n V0.x V0.y V0.s:=⟨_,rfl⟩
     have hR2:V0.right=R:=hR.symm
     rw [←hR] at HRt
     have HG:=Hm (fun hR0 w h=>fgive_any g d S R w h hR0)
     obtain ⟨S2,hS2⟩:∃S2,S2=failS S R:=⟨_,rfl⟩
     have k7:=h7.cell
     have k6:=h6.cell
     have HB7:=Hm h7
     have HB6:=Hm h6
     have HR:=Hm hr
     have HT:=Hm ht
     clear h7 h6 hr ht hR HV0 HS
     obtain ⟨ty,n,x,y,s⟩:=V0
     have HFIN:Hid (finV ⟨ty,n,x,y,s⟩ S=if S2.e≠0 then (V.zero,S2) else (⟨ty,n,x,y,s⟩,S2)):=Hm (by unfold finV;rw [hR2,←hS2])
     clear hR2
     simp only at*
     by_cases r0:R=0
     ·subst r0
      have hS3:S2=S:=by rw [hS2];rfl
      subst hS3
      clear hS2
      by_cases he:S2.e=0
      ·have he2:(S2.e !=0)=false:=by simp [he]
       have HF2:Hid (finV ⟨ty,n,x,y,s⟩ S2=(⟨ty,n,x,y,s⟩,S2)):=Hm (HFIN.out.trans (if_neg (fun h=>h he)))
       clear he
       go_wp2_with (first
        |(go_at_call 121;refine (HRt.out _).mono ?_;rintro e w2 ⟨rfl,hb1⟩;have h7:=HB7.out.ext hb1;have h6:=HB6.out.ext hb1;have j7:=h7.cell;have j6:=h6.cell;have f6:=h6.frozen;have z6:=h6.lt;have HR2:=Hm (HR.out.ext hb1);obtain ⟨_,_,_,hbg, -⟩:=HR2.out;have jg:=hbg.cell;have HT2:=Hm (HT.out.trans (Tch.of_ext hb1));have HQ6:=Hm h6;clear h7 h6 hb1 hbg))
       have HRW:RF (((((w2.setCell ⟨w.heap.size,0,none⟩ (.int .u8 ty)).setCell ⟨w.heap.size,1,none⟩ (.int .i64 n)).setCell ⟨w.heap.size,2,none⟩ (.int .u64 x)).setCell ⟨w.heap.size,3,none⟩ (.int .u64 y)).setCell ⟨w.heap.size,4,none⟩ (.string s)) g d S2:=((((HR2.out.tch (Tch.set1 _ _ _ _) (by omega) (.inr (by omega))).tch (Tch.set1 _ _ _ _) (by omega) (.inr (by omega))).tch (Tch.set1 _ _ _ _) (by omega) (.inr (by omega))).tch (Tch.set1 _ _ _ _) (by omega) (.inr (by omega))).tch (Tch.set1 _ _ _ _) (by omega) (.inr (by omega))
       have HTW:Tch g w (((((w2.setCell ⟨w.heap.size,0,none⟩ (.int .u8 ty)).setCell ⟨w.heap.size,1,none⟩ (.int .i64 n)).setCell ⟨w.heap.size,2,none⟩ (.int .u64 x)).setCell ⟨w.heap.size,3,none⟩ (.int .u64 y)).setCell ⟨w.heap.size,4,none⟩ (.string s)):=((((HT2.out.setNew (Nat.le_refl _) _ _).setNew (Nat.le_refl _) _ _).setNew (Nat.le_refl _) _ _).setNew (Nat.le_refl _) _ _).setNew (Nat.le_refl _) _ _
       have HWB:Blk (((((w2.setCell ⟨w.heap.size,0,none⟩ (.int .u8 ty)).setCell ⟨w.heap.size,1,none⟩ (.int .i64 n)).setCell ⟨w.heap.size,2,none⟩ (.int .u64 x)).setCell ⟨w.heap.size,3,none⟩ (.int .u64 y)).setCell ⟨w.heap.size,4,none⟩ (.string s)) w.heap.size #[.int .u8 ty, .int .i64 n, .int .u64 x, .int .u64 y, .string s] 125:=((((HQ6.out.set 0 _).set 1 _).set 2 _).set 3 _).set 4 _
       generalize ((((w2.setCell ⟨w.heap.size,0,none⟩ (.int .u8 ty)).setCell ⟨w.heap.size,1,none⟩ (.int .i64 n)).setCell ⟨w.heap.size,2,none⟩ (.int .u64 x)).setCell ⟨w.heap.size,3,none⟩ (.int .u64 y)).setCell ⟨w.heap.size,4,none⟩ (.string s)=W6 at HRW HTW HWB⊢
       refine bodyPost_ret (v:= .agg #[.int .u8 ty, .int .i64 n, .int .u64 x, .int .u64 y, .string s]) (res45 HWB rfl) rfl ⟨?_, ?_, ?_⟩
       ·rw [HF2.out]
       ·rw [HF2.out];exact HRW
       ·exact HTW
      ·have he2:(S2.e !=0)=true:=by simpa using he
       have HF2:Hid (finV ⟨ty,n,x,y,s⟩ S2=(V.zero,S2)):=Hm (HFIN.out.trans (if_pos he))
       clear he
       go_wp2_with (first
        |(go_at_call 121;refine (HRt.out _).mono ?_;rintro e w2 ⟨rfl,hb1⟩;have h7:=HB7.out.ext hb1;have h6:=HB6.out.ext hb1;have j7:=h7.cell;have j6:=h6.cell;have f6:=h6.frozen;have z6:=h6.lt;have HR2:=Hm (HR.out.ext hb1);obtain ⟨_,_,_,hbg, -⟩:=HR2.out;have jg:=hbg.cell;have HT2:=Hm (HT.out.trans (Tch.of_ext hb1));have HQ6:=Hm h6;clear h7 h6 hb1 hbg))
       have HRW:RF (((((w2.setCell ⟨w.heap.size,0,none⟩ (.int .u8 0)).setCell ⟨w.heap.size,1,none⟩ (.int .i64 0)).setCell ⟨w.heap.size,2,none⟩ (.int .u64 0)).setCell ⟨w.heap.size,3,none⟩ (.int .u64 0)).setCell ⟨w.heap.size,4,none⟩ (.string ⟨#[]⟩)) g d S2:=((((HR2.out.tch (Tch.set1 _ _ _ _) (by omega) (.inr (by omega))).tch (Tch.set1 _ _ _ _) (by omega) (.inr (by omega))).tch (Tch.set1 _ _ _ _) (by omega) (.inr (by omega))).tch (Tch.set1 _ _ _ _) (by omega) (.inr (by omega))).tch (Tch.set1 _ _ _ _) (by omega) (.inr (by omega))
       have HTW:Tch g w (((((w2.setCell ⟨w.heap.size,0,none⟩ (.int .u8 0)).setCell ⟨w.heap.size,1,none⟩ (.int .i64 0)).setCell ⟨w.heap.size,2,none⟩ (.int .u64 0)).setCell ⟨w.heap.size,3,none⟩ (.int .u64 0)).setCell ⟨w.heap.size,4,none⟩ (.string ⟨#[]⟩)):=((((HT2.out.setNew (Nat.le_refl _) _ _).setNew (Nat.le_refl _) _ _).setNew (Nat.le_refl _) _ _).setNew (Nat.le_refl _) _ _).setNew (Nat.le_refl _) _ _
       have HWB:Blk (((((w2.setCell ⟨w.heap.size,0,none⟩ (.int .u8 0)).setCell ⟨w.heap.size,1,none⟩ (.int .i64 0)).setCell ⟨w.heap.size,2,none⟩ (.int .u64 0)).setCell ⟨w.heap.size,3,none⟩ (.int .u64 0)).setCell ⟨w.heap.size,4,none⟩ (.string ⟨#[]⟩)) w.heap.size #[.int .u8 0, .int .i64 0, .int .u64 0, .int .u64 0, .string ⟨#[]⟩] 125:=((((HQ6.out.set 0 _).set 1 _).set 2 _).set 3 _).set 4 _
       generalize ((((w2.setCell ⟨w.heap.size,0,none⟩ (.int .u8 0)).setCell ⟨w.heap.size,1,none⟩ (.int .i64 0)).setCell ⟨w.heap.size,2,none⟩ (.int .u64 0)).setCell ⟨w.heap.size,3,none⟩ (.int .u64 0)).setCell ⟨w.heap.size,4,none⟩ (.string ⟨#[]⟩)=W6 at HRW HTW HWB⊢
       refine bodyPost_ret (v:= .agg #[.int .u8 0, .int .i64 0, .int .u64 0, .int .u64 0, .string ⟨#[]⟩]) (res45 HWB rfl) rfl ⟨?_, ?_, ?_⟩
       ·rw [HF2.out];rfl
       ·rw [HF2.out];exact HRW
       ·exact HTW
     ·have r1:(R !=0)=true:=by simpa using r0
      have HR0:=Hm r0
      have hS3:S2=giveS S R:=by rw [hS2];unfold failS;rw [if_pos r0]
      rw [←hS3] at HG
      have hne:S2.e≠0:=by rw [hS3];exact giveS_e r0
      have HF2:Hid (finV ⟨ty,n,x,y,s⟩ S=(V.zero,S2)):=Hm (HFIN.out.trans (if_pos hne))
      have hne2:(S2.e !=0)=true:=by simpa using hne
      clear hS2 hS3 r0 hne
      go_wp2_with (first
       |(go_at_call 121;refine (HRt.out _).mono ?_;rintro e w1 ⟨rfl,hb1⟩;have HE1:=Hm hb1;have HR1:=Hm (HR.out.ext hb1);clear hb1)
       |(go_at_call 30;refine (HG.out HR0.out _ HR1.out).mono ?_;rintro e w2 ⟨rfl,hr2,ht2⟩;have h7:=(HB7.out.ext HE1.out).tch ht2 (by omega);have h6:=(HB6.out.ext HE1.out).tch ht2 (by omega);have j7:=h7.cell;have j6:=h6.cell;have f6:=h6.frozen;have z6:=h6.lt;have HR2:=Hm hr2;obtain ⟨_,_,_,hbg, -⟩:=hr2;have jg:=hbg.cell;have HT2:=Hm (HT.out.trans ((Tch.of_ext HE1.out).trans ht2));have HQ6:=Hm h6;clear h7 h6 hbg ht2))
      have HRW:RF (((((w2.setCell ⟨w.heap.size,0,none⟩ (.int .u8 0)).setCell ⟨w.heap.size,1,none⟩ (.int .i64 0)).setCell ⟨w.heap.size,2,none⟩ (.int .u64 0)).setCell ⟨w.heap.size,3,none⟩ (.int .u64 0)).setCell ⟨w.heap.size,4,none⟩ (.string ⟨#[]⟩)) g d S2:=((((HR2.out.tch (Tch.set1 _ _ _ _) (by omega) (.inr (by omega))).tch (Tch.set1 _ _ _ _) (by omega) (.inr (by omega))).tch (Tch.set1 _ _ _ _) (by omega) (.inr (by omega))).tch (Tch.set1 _ _ _ _) (by omega) (.inr (by omega))).tch (Tch.set1 _ _ _ _) (by omega) (.inr (by omega))
      have HTW:Tch g w (((((w2.setCell ⟨w.heap.size,0,none⟩ (.int .u8 0)).setCell ⟨w.heap.size,1,none⟩ (.int .i64 0)).setCell ⟨w.heap.size,2,none⟩ (.int .u64 0)).setCell ⟨w.heap.size,3,none⟩ (.int .u64 0)).setCell ⟨w.heap.size,4,none⟩ (.string ⟨#[]⟩)):=((((HT2.out.setNew (Nat.le_refl _) _ _).setNew (Nat.le_refl _) _ _).setNew (Nat.le_refl _) _ _).setNew (Nat.le_refl _) _ _).setNew (Nat.le_refl _) _ _
      have HWB:Blk (((((w2.setCell ⟨w.heap.size,0,none⟩ (.int .u8 0)).setCell ⟨w.heap.size,1,none⟩ (.int .i64 0)).setCell ⟨w.heap.size,2,none⟩ (.int .u64 0)).setCell ⟨w.heap.size,3,none⟩ (.int .u64 0)).setCell ⟨w.heap.size,4,none⟩ (.string ⟨#[]⟩)) w.heap.size #[.int .u8 0, .int .i64 0, .int .u64 0, .int .u64 0, .string ⟨#[]⟩] 125:=((((HQ6.out.set 0 _).set 1 _).set 2 _).set 3 _).set 4 _
      generalize ((((w2.setCell ⟨w.heap.size,0,none⟩ (.int .u8 0)).setCell ⟨w.heap.size,1,none⟩ (.int .i64 0)).setCell ⟨w.heap.size,2,none⟩ (.int .u64 0)).setCell ⟨w.heap.size,3,none⟩ (.int .u64 0)).setCell ⟨w.heap.size,4,none⟩ (.string ⟨#[]⟩)=W6 at HRW HTW HWB⊢
      refine bodyPost_ret (v:= .agg #[.int .u8 0, .int .i64 0, .int .u64 0, .int .u64 0, .string ⟨#[]⟩]) (res45 HWB rfl) rfl ⟨?_, ?_, ?_⟩
      ·rw [HF2.out];rfl
      ·rw [HF2.out];exact HRW
      ·exact HTW
  ·skip
   go_enter Tryz.func119,Tryz.ntmps119
   go_upto_block 0 with (fail)
   go_cut [] (fun wx=>Hid (FkRel g d w V0 S wx))
   case first=>
    as_aux_lemma=>
     by_cases q1:kind=1
     ·subst q1
      have e:bodyR 1 2 st=(⟨1,(byteR st).1,0,0,ByteArray.empty⟩,(byteR st).2):=by rfl
      rw [e] at HV0 HS
      have HC:=Hm (fun w h=>fbyte_any g d st w h)
      have hb01:=byteR_rng hok
      generalize byteR st=U at*
      obtain ⟨b,S1⟩:=U
      simp only at HV0 HS HC
      clear e
      go_wp2_with (first
       |(go_at_call 26;refine (HC.out _ (H.out.ext (by exact eX))).mono ?_;rintro e w1 ⟨rfl,hr1,ht1⟩;have h7:=(Blk.new' (w:=w.alloc (.cells #[.int .u8 0, .int .i64 0, .int .u64 0, .int .u64 0, .string ByteArray.empty] 125)) (b:=w.heap.size+1) _ 125 (by simp)).tch ht1 (by omega);have h6:=((Blk.new w #[.int .u8 0, .int .i64 0, .int .u64 0, .int .u64 0, .string ByteArray.empty] 125).alloc _).tch ht1 (by omega);have HB7:=Hm h7;have HB6:=Hm h6;have k7:=h7.cell;have f7:=h7.frozen;have z7:=h7.lt;have HR1:=Hm hr1;have HT1:Hid (Tch g w w1):=Hm ((((Tch.refl g w).alloc _).alloc _).trans ht1);clear h7 h6 hr1 ht1))
      go_meet
      case rel=>
       have h:=FkRel.set 1 (.int .i64 b) HV0.out rfl hg HB7.out HB6.out (HS.out ▸ HR1.out) HT1.out
       exact h
     by_cases q2:kind=2
     ·subst q2
      have e:bodyR 2 2 st=(⟨2,(intR st).1,0,0,ByteArray.empty⟩,(intR st).2):=by rfl
      rw [e] at HV0 HS
      have HC:=Hm (fun w h=>fint_any g d st w h)
      generalize intR st=U at*
      obtain ⟨b,S1⟩:=U
      simp only at HV0 HS HC
      clear e
      go_wp2_with (first
       |(go_at_call 156;refine (HC.out _ (H.out.ext (by exact eX))).mono ?_;rintro e w1 ⟨rfl,hr1,ht1⟩;have h7:=(Blk.new' (w:=w.alloc (.cells #[.int .u8 0, .int .i64 0, .int .u64 0, .int .u64 0, .string ByteArray.empty] 125)) (b:=w.heap.size+1) _ 125 (by simp)).tch ht1 (by omega);have h6:=((Blk.new w #[.int .u8 0, .int .i64 0, .int .u64 0, .int .u64 0, .string ByteArray.empty] 125).alloc _).tch ht1 (by omega);have HB7:=Hm h7;have HB6:=Hm h6;have k7:=h7.cell;have f7:=h7.frozen;have z7:=h7.lt;have HR1:=Hm hr1;have HT1:Hid (Tch g w w1):=Hm ((((Tch.refl g w).alloc _).alloc _).trans ht1);clear h7 h6 hr1 ht1))
      go_meet
      case rel=>
       have h:=FkRel.set 1 (.int .i64 b) HV0.out rfl hg HB7.out HB6.out (HS.out ▸ HR1.out) HT1.out
       exact h
     by_cases q3:kind=3
     ·subst q3
      have e:bodyR 3 2 st=(⟨3,0,(floatR 2 st).1,0,ByteArray.empty⟩,(floatR 2 st).2):=by rfl
      rw [e] at HV0 HS
      have HC:=Hm (fun w h=>ftf_any g d st 2 w h)
      generalize floatR 2 st=U at*
      obtain ⟨b,S1⟩:=U
      simp only at HV0 HS HC
      clear e
      go_wp2_with (first
       |(go_at_call 157;refine (HC.out _ (H.out.ext (by exact eX))).mono ?_;rintro e w1 ⟨rfl,hr1,ht1⟩;have h7:=(Blk.new' (w:=w.alloc (.cells #[.int .u8 0, .int .i64 0, .int .u64 0, .int .u64 0, .string ByteArray.empty] 125)) (b:=w.heap.size+1) _ 125 (by simp)).tch ht1 (by omega);have h6:=((Blk.new w #[.int .u8 0, .int .i64 0, .int .u64 0, .int .u64 0, .string ByteArray.empty] 125).alloc _).tch ht1 (by omega);have HB7:=Hm h7;have HB6:=Hm h6;have k7:=h7.cell;have f7:=h7.frozen;have z7:=h7.lt;have HR1:=Hm hr1;have HT1:Hid (Tch g w w1):=Hm ((((Tch.refl g w).alloc _).alloc _).trans ht1);clear h7 h6 hr1 ht1))
      go_meet
      case rel=>
       have h:=FkRel.set 2 (.int .u64 b) HV0.out rfl hg HB7.out HB6.out (HS.out ▸ HR1.out) HT1.out
       exact h
     by_cases q4:kind=4
     ·subst q4
      have e:bodyR 4 2 st=(⟨4,0,(complexR 2 st).1.1,(complexR 2 st).1.2,ByteArray.empty⟩,(complexR 2 st).2):=rfl
      rw [e] at HV0 HS
      clear e
      have e2:complexR 2 st=((fun a:Nat×RS=>(fun b:Nat×RS=>((a.1,b.1),b.2)) (partR (decide ((byteR st).1 / 2%2=1)) a.2)) (partR (decide ((byteR st).1%2=1)) (if 3<(byteR st).1 then giveS (byteR st).2 4 else (byteR st).2))):=rfl
      rw [e2] at HV0 HS
      clear e2
      have HC:=Hm (fun w h=>fbyte_any g d st w h)
      have hm:=byteR_rng hok
      generalize byteR st=U at*
      obtain ⟨m,S1⟩:=U
      simp only at HV0 HS HC hm
      obtain ⟨hm0,hm1⟩:=hm
      obtain ⟨S2,hS2⟩:∃S2,S2=(if 3<m then giveS S1 4 else S1):=⟨_,rfl⟩
      rw [←hS2] at HV0 HS
      obtain ⟨T0,hT0⟩:∃T0,T0=decide (m%2=1):=⟨_,rfl⟩
      obtain ⟨T1,hT1⟩:∃T1,T1=decide (m / 2%2=1):=⟨_,rfl⟩
      rw [←hT0,←hT1] at HV0 HS
      have ht0:(m%2==1)=T0:=hT0.symm
      have ht1' :(m / 2%2==1)=T1:=hT1.symm
      have HP1:=Hm (fun w h=>fpart_any g d S2 T0 w h)
      generalize partR T0 S2=U at*
      obtain ⟨b,S3⟩:=U
      simp only at HV0 HS HP1
      have HP2:=Hm (fun w h=>fpart_any g d S3 T1 w h)
      generalize partR T1 S3=U at*
      obtain ⟨c,S4⟩:=U
      simp only at HV0 HS HP2
      have HS2:=Hm hS2
      have HG4:=Hm (fun w h=>fgive_any g d S1 4 w h (by decide))
      have HT0:=Hm ht0
      have HT1' :=Hm ht1'
      clear hS2 hT0 hT1 ht0 ht1'
      by_cases h3:3<m
      ·rw [if_pos h3] at HS2
       go_upto_region 21 with (first
        |(go_at_call 26;refine (HC.out _ (H.out.ext (by exact eX))).mono ?_;rintro e w0 ⟨rfl,hr0,ht0⟩;have HR0:=Hm hr0;have HT00:=Hm ht0;clear hr0 ht0)
        |(go_at_call 30;refine (HG4.out _ HR0.out).mono ?_;rintro e w1 ⟨rfl,hr1,ht1⟩;have ht1:=HT00.out.trans ht1;have h7:=(Blk.new' (w:=w.alloc (.cells #[.int .u8 0, .int .i64 0, .int .u64 0, .int .u64 0, .string ByteArray.empty] 125)) (b:=w.heap.size+1) _ 125 (by simp)).tch ht1 (by omega);have h6:=((Blk.new w #[.int .u8 0, .int .i64 0, .int .u64 0, .int .u64 0, .string ByteArray.empty] 125).alloc _).tch ht1 (by omega);have HB7:=Hm h7;have HB6:=Hm h6;have k7:=h7.cell;have f7:=h7.frozen;have z7:=h7.lt;have HR1:=Hm hr1;have HT1:Hid (Tch g w w1):=Hm ((((Tch.refl g w).alloc _).alloc _).trans ht1);clear h7 h6 hr1 ht1))
       have ht0:=HT0.out
       have ht1' :=HT1'.out
       go_upto_region 22 with (go_at_call 158;refine (HP1.out _ (HS2.out ▸ HR1.out)).mono ?_;rintro e w2 ⟨rfl,hr2,ht2⟩;have h7:=HB7.out.tch ht2 (by omega);have h6:=HB6.out.tch ht2 (by omega);have HC7:=Hm h7;have HC6:=Hm h6;have k72:=h7.cell;have f72:=h7.frozen;have z72:=h7.lt;have HR2:=Hm hr2;have HT2:=Hm (HT1.out.trans ht2);clear h7 h6 hr2 ht2)
       have HX7:=Hm (HC7.out.set 2 (.int .u64 b));have j7:=HX7.out.cell;have e7:=HX7.out.frozen;have y7:=HX7.out.lt;have HX6:=Hm (HC6.out.other (a:=⟨w.heap.size+1,2,none⟩) (.int .u64 b) (by simp));have HRX:=Hm (HR2.out.tch ((Tch.refl (w.heap.size+1) w2).set 2 (.int .u64 b)) (by omega) (.inr (by omega)));have HTX:=Hm (HT2.out.setNew (h:=w.heap.size+1) (by omega) 2 (.int .u64 b))
       clear k7 f7 z7 k72 f72 z72
       go_wp2_with (go_at_call 158;refine (HP2.out _ HRX.out).mono ?_;rintro e w3 ⟨rfl,hr3,ht3⟩;have h7:=HX7.out.tch ht3 (by omega);have h6:=HX6.out.tch ht3 (by omega);have HY7:=Hm h7;have HY6:=Hm h6;have k7:=h7.cell;have f7:=h7.frozen;have z7:=h7.lt;have HR3:=Hm hr3;have HT3:=Hm (HTX.out.trans ht3);clear h7 h6 hr3 ht3)
       go_meet
       case rel=>
        have h:=FkRel.set 3 (.int .u64 c) HV0.out rfl hg HY7.out HY6.out (HS.out ▸ HR3.out) HT3.out
        exact h
      ·rw [if_neg h3] at HS2
       have h3' :m≤3:=by omega
       go_upto_region 21 with (first
        |(go_at_call 26;refine (HC.out _ (H.out.ext (by exact eX))).mono ?_;rintro e w1 ⟨rfl,hr1,ht1⟩;have h7:=(Blk.new' (w:=w.alloc (.cells #[.int .u8 0, .int .i64 0, .int .u64 0, .int .u64 0, .string ByteArray.empty] 125)) (b:=w.heap.size+1) _ 125 (by simp)).tch ht1 (by omega);have h6:=((Blk.new w #[.int .u8 0, .int .i64 0, .int .u64 0, .int .u64 0, .string ByteArray.empty] 125).alloc _).tch ht1 (by omega);have HB7:=Hm h7;have HB6:=Hm h6;have k7:=h7.cell;have f7:=h7.frozen;have z7:=h7.lt;have HR1:=Hm hr1;have HT1:Hid (Tch g w w1):=Hm ((((Tch.refl g w).alloc _).alloc _).trans ht1);clear h7 h6 hr1 ht1))
       have ht0:=HT0.out
       have ht1' :=HT1'.out
       go_upto_region 22 with (go_at_call 158;refine (HP1.out _ (HS2.out ▸ HR1.out)).mono ?_;rintro e w2 ⟨rfl,hr2,ht2⟩;have h7:=HB7.out.tch ht2 (by omega);have h6:=HB6.out.tch ht2 (by omega);have HC7:=Hm h7;have HC6:=Hm h6;have k72:=h7.cell;have f72:=h7.frozen;have z72:=h7.lt;have HR2:=Hm hr2;have HT2:=Hm (HT1.out.trans ht2);clear h7 h6 hr2 ht2)
       have HX7:=Hm (HC7.out.set 2 (.int .u64 b));have j7:=HX7.out.cell;have e7:=HX7.out.frozen;have y7:=HX7.out.lt;have HX6:=Hm (HC6.out.other (a:=⟨w.heap.size+1,2,none⟩) (.int .u64 b) (by simp));have HRX:=Hm (HR2.out.tch ((Tch.refl (w.heap.size+1) w2).set 2 (.int .u64 b)) (by omega) (.inr (by omega)));have HTX:=Hm (HT2.out.setNew (h:=w.heap.size+1) (by omega) 2 (.int .u64 b))
       clear k7 f7 z7 k72 f72 z72
       go_wp2_with (go_at_call 158;refine (HP2.out _ HRX.out).mono ?_;rintro e w3 ⟨rfl,hr3,ht3⟩;have h7:=HX7.out.tch ht3 (by omega);have h6:=HX6.out.tch ht3 (by omega);have HY7:=Hm h7;have HY6:=Hm h6;have k7:=h7.cell;have f7:=h7.frozen;have z7:=h7.lt;have HR3:=Hm hr3;have HT3:=Hm (HTX.out.trans ht3);clear h7 h6 hr3 ht3)
       go_meet
       case rel=>
        have h:=FkRel.set 3 (.int .u64 c) HV0.out rfl hg HY7.out HY6.out (HS.out ▸ HR3.out) HT3.out
        exact h
     by_cases q5:kind=5
     ·subst q5
      have e:bodyR 5 2 st=(⟨5,0,0,0,strOfNums (textR 2048 st).1⟩,(textR 2048 st).2):=by rfl
      rw [e] at HV0 HS
      have HC:=Hm (fun w h=>ftext_any g d st 2048 w h (by decide))
      generalize textR 2048 st=U at*
      obtain ⟨b,S1⟩:=U
      simp only at HV0 HS HC
      clear e
      go_wp2_with (first
       |(go_at_call 120;refine (HC.out _ (H.out.ext (by exact eX))).mono ?_;rintro e w1 ⟨rfl,hr1,ht1⟩;have h7:=(Blk.new' (w:=w.alloc (.cells #[.int .u8 0, .int .i64 0, .int .u64 0, .int .u64 0, .string ByteArray.empty] 125)) (b:=w.heap.size+1) _ 125 (by simp)).tch ht1 (by omega);have h6:=((Blk.new w #[.int .u8 0, .int .i64 0, .int .u64 0, .int .u64 0, .string ByteArray.empty] 125).alloc _).tch ht1 (by omega);have HB7:=Hm h7;have HB6:=Hm h6;have k7:=h7.cell;have f7:=h7.frozen;have z7:=h7.lt;have HR1:=Hm hr1;have HT1:Hid (Tch g w w1):=Hm ((((Tch.refl g w).alloc _).alloc _).trans ht1);clear h7 h6 hr1 ht1))
      go_meet
      case rel=>
       have h:=FkRel.set 4 (.string (strOfNums b)) HV0.out rfl hg HB7.out HB6.out (HS.out ▸ HR1.out) HT1.out
       exact h
     by_cases q6:kind=6
     ·subst q6
      have e:bodyR 6 2 st=(⟨6,0,0,0,strOfNums (textR 2048 st).1⟩,(textR 2048 st).2):=by rfl
      rw [e] at HV0 HS
      have HC:=Hm (fun w h=>ftext_any g d st 2048 w h (by decide))
      generalize textR 2048 st=U at*
      obtain ⟨b,S1⟩:=U
      simp only at HV0 HS HC
      clear e
      go_wp2_with (first
       |(go_at_call 120;refine (HC.out _ (H.out.ext (by exact eX))).mono ?_;rintro e w1 ⟨rfl,hr1,ht1⟩;have h7:=(Blk.new' (w:=w.alloc (.cells #[.int .u8 0, .int .i64 0, .int .u64 0, .int .u64 0, .string ByteArray.empty] 125)) (b:=w.heap.size+1) _ 125 (by simp)).tch ht1 (by omega);have h6:=((Blk.new w #[.int .u8 0, .int .i64 0, .int .u64 0, .int .u64 0, .string ByteArray.empty] 125).alloc _).tch ht1 (by omega);have HB7:=Hm h7;have HB6:=Hm h6;have k7:=h7.cell;have f7:=h7.frozen;have z7:=h7.lt;have HR1:=Hm hr1;have HT1:Hid (Tch g w w1):=Hm ((((Tch.refl g w).alloc _).alloc _).trans ht1);clear h7 h6 hr1 ht1))
      go_meet
      case rel=>
       have h:=FkRel.set 4 (.string (strOfNums b)) HV0.out rfl hg HB7.out HB6.out (HS.out ▸ HR1.out) HT1.out
       exact h
     have e:bodyR kind 2 st=(⟨kind,0,0,0,ByteArray.empty⟩,st):=by unfold bodyR;rw [if_neg q1,if_neg q2,if_neg q3,if_neg q4,if_neg (by rintro (h|h);exact q5 h;exact q6 h)]
     rw [e] at HV0 HS
     have r1:(kind==1)=false:=by simpa using q1
     have r2:(kind==2)=false:=by simpa using q2
     have r3:(kind==3)=false:=by simpa using q3
     have r4:(kind==4)=false:=by simpa using q4
     have r5:(kind==5)=false:=by simpa using q5
     have r6:(kind==6)=false:=by simpa using q6
     clear q1 q2 q3 q4 q5 q6 e
     go_wp2
     go_meet
     case rel=>
      exact FkRel.mk' HV0.out (Blk.new' (w:=w.alloc (.cells #[.int .u8 0, .int .i64 0, .int .u64 0, .int .u64 0, .string ByteArray.empty] 125)) (b:=w.heap.size+1) _ 125 (by simp)) ((Blk.new w #[.int .u8 0, .int .i64 0, .int .u64 0, .int .u64 0, .string ByteArray.empty] 125).alloc _) (by rw [HS.out];exact H.out.ext (by exact eX)) (((Tch.refl g w).alloc _).alloc _)
   case rest=>
    as_aux_lemma=>
     obtain ⟨h7,h6,hr,ht⟩:=hcut.out
     clear hcut
     have HRt:=Hm (fun w=>rright_any V0.ty V0.n V0.x V0.y V0.s w (by omega))
     obtain ⟨R,hR⟩:∃R,R=rightV V0.ty V0.n V0.x V0.y V0.s:=⟨_,rfl⟩
     have hR2:V0.right=R:=hR.symm
     rw [←hR] at HRt
     have HG:=Hm (fun hR0 w h=>fgive_any g d S R w h hR0)
     obtain ⟨S2,hS2⟩:∃S2,S2=failS S R:=⟨_,rfl⟩
     have k7:=h7.cell
     have k6:=h6.cell
     have HB7:=Hm h7
     have HB6:=Hm h6
     have HR:=Hm hr
     have HT:=Hm ht
     clear h7 h6 hr ht hR HV0 HS
     obtain ⟨ty,n,x,y,s⟩:=V0
     have HFIN:Hid (finV ⟨ty,n,x,y,s⟩ S=if S2.e≠0 then (V.zero,S2) else (⟨ty,n,x,y,s⟩,S2)):=Hm (by unfold finV;rw [hR2,←hS2])
     clear hR2
     simp only at*
     by_cases r0:R=0
     ·subst r0
      have hS3:S2=S:=by rw [hS2];rfl
      subst hS3
      clear hS2
      by_cases he:S2.e=0
      ·have he2:(S2.e !=0)=false:=by simp [he]
       have HF2:Hid (finV ⟨ty,n,x,y,s⟩ S2=(⟨ty,n,x,y,s⟩,S2)):=Hm (HFIN.out.trans (if_neg (fun h=>h he)))
       clear he
       go_wp2_with (first
        |(go_at_call 121;refine (HRt.out _).mono ?_;rintro e w2 ⟨rfl,hb1⟩;have h7:=HB7.out.ext hb1;have h6:=HB6.out.ext hb1;have j7:=h7.cell;have j6:=h6.cell;have f6:=h6.frozen;have z6:=h6.lt;have HR2:=Hm (HR.out.ext hb1);obtain ⟨_,_,_,hbg, -⟩:=HR2.out;have jg:=hbg.cell;have HT2:=Hm (HT.out.trans (Tch.of_ext hb1));have HQ6:=Hm h6;clear h7 h6 hb1 hbg))
       have HRW:RF (((((w2.setCell ⟨w.heap.size,0,none⟩ (.int .u8 ty)).setCell ⟨w.heap.size,1,none⟩ (.int .i64 n)).setCell ⟨w.heap.size,2,none⟩ (.int .u64 x)).setCell ⟨w.heap.size,3,none⟩ (.int .u64 y)).setCell ⟨w.heap.size,4,none⟩ (.string s)) g d S2:=((((HR2.out.tch (Tch.set1 _ _ _ _) (by omega) (.inr (by omega))).tch (Tch.set1 _ _ _ _) (by omega) (.inr (by omega))).tch (Tch.set1 _ _ _ _) (by omega) (.inr (by omega))).tch (Tch.set1 _ _ _ _) (by omega) (.inr (by omega))).tch (Tch.set1 _ _ _ _) (by omega) (.inr (by omega))
       have HTW:Tch g w (((((w2.setCell ⟨w.heap.size,0,none⟩ (.int .u8 ty)).setCell ⟨w.heap.size,1,none⟩ (.int .i64 n)).setCell ⟨w.heap.size,2,none⟩ (.int .u64 x)).setCell ⟨w.heap.size,3,none⟩ (.int .u64 y)).setCell ⟨w.heap.size,4,none⟩ (.string s)):=((((HT2.out.setNew (Nat.le_refl _) _ _).setNew (Nat.le_refl _) _ _).setNew (Nat.le_refl _) _ _).setNew (Nat.le_refl _) _ _).setNew (Nat.le_refl _) _ _
       have HWB:Blk (((((w2.setCell ⟨w.heap.size,0,none⟩ (.int .u8 ty)).setCell ⟨w.heap.size,1,none⟩ (.int .i64 n)).setCell ⟨w.heap.size,2,none⟩ (.int .u64 x)).setCell ⟨w.heap.size,3,none⟩ (.int .u64 y)).setCell ⟨w.heap.size,4,none⟩ (.string s)) w.heap.size #[.int .u8 ty, .int .i64 n, .int .u64 x, .int .u64 y, .string s] 125:=((((HQ6.out.set 0 _).set 1 _).set 2 _).set 3 _).set 4 _
       generalize ((((w2.setCell ⟨w.heap.size,0,none⟩ (.int .u8 ty)).setCell ⟨w.heap.size,1,none⟩ (.int .i64 n)).setCell ⟨w.heap.size,2,none⟩ (.int .u64 x)).setCell ⟨w.heap.size,3,none⟩ (.int .u64 y)).setCell ⟨w.heap.size,4,none⟩ (.string s)=W6 at HRW HTW HWB⊢
       refine bodyPost_ret (v:= .agg #[.int .u8 ty, .int .i64 n, .int .u64 x, .int .u64 y, .string s]) (res45 HWB rfl) rfl ⟨?_, ?_, ?_⟩
       ·rw [HF2.out]
       ·rw [HF2.out];exact HRW
       ·exact HTW
      ·have he2:(S2.e !=0)=true:=by simpa using he
       have HF2:Hid (finV ⟨ty,n,x,y,s⟩ S2=(V.zero,S2)):=Hm (HFIN.out.trans (if_pos he))
       clear he
       go_wp2_with (first
        |(go_at_call 121;refine (HRt.out _).mono ?_;rintro e w2 ⟨rfl,hb1⟩;have h7:=HB7.out.ext hb1;have h6:=HB6.out.ext hb1;have j7:=h7.cell;have j6:=h6.cell;have f6:=h6.frozen;have z6:=h6.lt;have HR2:=Hm (HR.out.ext hb1);obtain ⟨_,_,_,hbg, -⟩:=HR2.out;have jg:=hbg.cell;have HT2:=Hm (HT.out.trans (Tch.of_ext hb1));have HQ6:=Hm h6;clear h7 h6 hb1 hbg))
       have HRW:RF (((((w2.setCell ⟨w.heap.size,0,none⟩ (.int .u8 0)).setCell ⟨w.heap.size,1,none⟩ (.int .i64 0)).setCell ⟨w.heap.size,2,none⟩ (.int .u64 0)).setCell ⟨w.heap.size,3,none⟩ (.int .u64 0)).setCell ⟨w.heap.size,4,none⟩ (.string ⟨#[]⟩)) g d S2:=((((HR2.out.tch (Tch.set1 _ _ _ _) (by omega) (.inr (by omega))).tch (Tch.set1 _ _ _ _) (by omega) (.inr (by omega))).tch (Tch.set1 _ _ _ _) (by omega) (.inr (by omega))).tch (Tch.set1 _ _ _ _) (by omega) (.inr (by omega))).tch (Tch.set1 _ _ _ _) (by omega) (.inr (by omega))
       have HTW:Tch g w (((((w2.setCell ⟨w.heap.size,0,none⟩ (.int .u8 0)).setCell ⟨w.heap.size,1,none⟩ (.int .i64 0)).setCell ⟨w.heap.size,2,none⟩ (.int .u64 0)).setCell ⟨w.heap.size,3,none⟩ (.int .u64 0)).setCell ⟨w.heap.size,4,none⟩ (.string ⟨#[]⟩)):=((((HT2.out.setNew (Nat.le_refl _) _ _).setNew (Nat.le_refl _) _ _).setNew (Nat.le_refl _) _ _).setNew (Nat.le_refl _) _ _).setNew (Nat.le_refl _) _ _
       have HWB:Blk (((((w2.setCell ⟨w.heap.size,0,none⟩ (.int .u8 0)).setCell ⟨w.heap.size,1,none⟩ (.int .i64 0)).setCell ⟨w.heap.size,2,none⟩ (.int .u64 0)).setCell ⟨w.heap.size,3,none⟩ (.int .u64 0)).setCell ⟨w.heap.size,4,none⟩ (.string ⟨#[]⟩)) w.heap.size #[.int .u8 0, .int .i64 0, .int .u64 0, .int .u64 0, .string ⟨#[]⟩] 125:=((((HQ6.out.set 0 _).set 1 _).set 2 _).set 3 _).set 4 _
       generalize ((((w2.setCell ⟨w.heap.size,0,none⟩ (.int .u8 0)).setCell ⟨w.heap.size,1,none⟩ (.int .i64 0)).setCell ⟨w.heap.size,2,none⟩ (.int .u64 0)).setCell ⟨w.heap.size,3,none⟩ (.int .u64 0)).setCell ⟨w.heap.size,4,none⟩ (.string ⟨#[]⟩)=W6 at HRW HTW HWB⊢
       refine bodyPost_ret (v:= .agg #[.int .u8 0, .int .i64 0, .int .u64 0, .int .u64 0, .string ⟨#[]⟩]) (res45 HWB rfl) rfl ⟨?_, ?_, ?_⟩
       ·rw [HF2.out];rfl
       ·rw [HF2.out];exact HRW
       ·exact HTW
     ·have r1:(R !=0)=true:=by simpa using r0
      have HR0:=Hm r0
      have hS3:S2=giveS S R:=by rw [hS2];unfold failS;rw [if_pos r0]
      rw [←hS3] at HG
      have hne:S2.e≠0:=by rw [hS3];exact giveS_e r0
      have HF2:Hid (finV ⟨ty,n,x,y,s⟩ S=(V.zero,S2)):=Hm (HFIN.out.trans (if_pos hne))
      have hne2:(S2.e !=0)=true:=by simpa using hne
      clear hS2 hS3 r0 hne
      go_wp2_with (first
       |(go_at_call 121;refine (HRt.out _).mono ?_;rintro e w1 ⟨rfl,hb1⟩;have HE1:=Hm hb1;have HR1:=Hm (HR.out.ext hb1);clear hb1)
       |(go_at_call 30;refine (HG.out HR0.out _ HR1.out).mono ?_;rintro e w2 ⟨rfl,hr2,ht2⟩;have h7:=(HB7.out.ext HE1.out).tch ht2 (by omega);have h6:=(HB6.out.ext HE1.out).tch ht2 (by omega);have j7:=h7.cell;have j6:=h6.cell;have f6:=h6.frozen;have z6:=h6.lt;have HR2:=Hm hr2;obtain ⟨_,_,_,hbg, -⟩:=hr2;have jg:=hbg.cell;have HT2:=Hm (HT.out.trans ((Tch.of_ext HE1.out).trans ht2));have HQ6:=Hm h6;clear h7 h6 hbg ht2))
      have HRW:RF (((((w2.setCell ⟨w.heap.size,0,none⟩ (.int .u8 0)).setCell ⟨w.heap.size,1,none⟩ (.int .i64 0)).setCell ⟨w.heap.size,2,none⟩ (.int .u64 0)).setCell ⟨w.heap.size,3,none⟩ (.int .u64 0)).setCell ⟨w.heap.size,4,none⟩ (.string ⟨#[]⟩)) g d S2:=((((HR2.out.tch (Tch.set1 _ _ _ _) (by omega) (.inr (by omega))).tch (Tch.set1 _ _ _ _) (by omega) (.inr (by omega))).tch (Tch.set1 _ _ _ _) (by omega) (.inr (by omega))).tch (Tch.set1 _ _ _ _) (by omega) (.inr (by omega))).tch (Tch.set1 _ _ _ _) (by omega) (.inr (by omega))
      have HTW:Tch g w (((((w2.setCell ⟨w.heap.size,0,none⟩ (.int .u8 0)).setCell ⟨w.heap.size,1,none⟩ (.int .i64 0)).setCell ⟨w.heap.size,2,none⟩ (.int .u64 0)).setCell ⟨w.heap.size,3,none⟩ (.int .u64 0)).setCell ⟨w.heap.size,4,none⟩ (.string ⟨#[]⟩)):=((((HT2.out.setNew (Nat.le_refl _) _ _).setNew (Nat.le_refl _) _ _).setNew (Nat.le_refl _) _ _).setNew (Nat.le_refl _) _ _).setNew (Nat.le_refl _) _ _
      have HWB:Blk (((((w2.setCell ⟨w.heap.size,0,none⟩ (.int .u8 0)).setCell ⟨w.heap.size,1,none⟩ (.int .i64 0)).setCell ⟨w.heap.size,2,none⟩ (.int .u64 0)).setCell ⟨w.heap.size,3,none⟩ (.int .u64 0)).setCell ⟨w.heap.size,4,none⟩ (.string ⟨#[]⟩)) w.heap.size #[.int .u8 0, .int .i64 0, .int .u64 0, .int .u64 0, .string ⟨#[]⟩] 125:=((((HQ6.out.set 0 _).set 1 _).set 2 _).set 3 _).set 4 _
      generalize ((((w2.setCell ⟨w.heap.size,0,none⟩ (.int .u8 0)).setCell ⟨w.heap.size,1,none⟩ (.int .i64 0)).setCell ⟨w.heap.size,2,none⟩ (.int .u64 0)).setCell ⟨w.heap.size,3,none⟩ (.int .u64 0)).setCell ⟨w.heap.size,4,none⟩ (.string ⟨#[]⟩)=W6 at HRW HTW HWB⊢
      refine bodyPost_ret (v:= .agg #[.int .u8 0, .int .i64 0, .int .u64 0, .int .u64 0, .string ⟨#[]⟩]) (res45 HWB rfl) rfl ⟨?_, ?_, ?_⟩
      ·rw [HF2.out];rfl
      ·rw [HF2.out];exact HRW
      ·exact HTW
 ·have hE:Hid (takeV kind ver st=(V.zero,giveS st 18)):=Hm (by unfold takeV;rw [if_neg hv])
  have HG:=Hm (fun w h=>fgive_any g d st 18 w h (by decide))
  have hv1:(ver !=1)=true:=by simp;omega
  have hv2:(ver !=2)=true:=by simp;omega
  clear hv
  go_enter Tryz.func119,Tryz.ntmps119
  go_wp2_with (first
   |(go_at_call 30;refine (HG.out _ (H.out.ext (by exact eX))).mono ?_;rintro e w1 ⟨rfl,hr1,ht1⟩;have h6:=((Blk.new w #[.int .u8 0, .int .i64 0, .int .u64 0, .int .u64 0, .string ByteArray.empty] 125).alloc _).tch ht1 (by omega);have j6:=h6.cell;have f6:=h6.frozen;have z6:=h6.lt;have HQ6:=Hm h6;have HR2:=Hm hr1;have HT2:Hid (Tch g w w1):=Hm ((((Tch.refl g w).alloc _).alloc _).trans ht1);clear h6 hr1 ht1))
  have HRW:RF (((((w1.setCell ⟨w.heap.size,0,none⟩ (.int .u8 0)).setCell ⟨w.heap.size,1,none⟩ (.int .i64 0)).setCell ⟨w.heap.size,2,none⟩ (.int .u64 0)).setCell ⟨w.heap.size,3,none⟩ (.int .u64 0)).setCell ⟨w.heap.size,4,none⟩ (.string ⟨#[]⟩)) g d (giveS st 18):=((((HR2.out.tch (Tch.set1 _ _ _ _) (by omega) (.inr (by omega))).tch (Tch.set1 _ _ _ _) (by omega) (.inr (by omega))).tch (Tch.set1 _ _ _ _) (by omega) (.inr (by omega))).tch (Tch.set1 _ _ _ _) (by omega) (.inr (by omega))).tch (Tch.set1 _ _ _ _) (by omega) (.inr (by omega))
  have HTW:Tch g w (((((w1.setCell ⟨w.heap.size,0,none⟩ (.int .u8 0)).setCell ⟨w.heap.size,1,none⟩ (.int .i64 0)).setCell ⟨w.heap.size,2,none⟩ (.int .u64 0)).setCell ⟨w.heap.size,3,none⟩ (.int .u64 0)).setCell ⟨w.heap.size,4,none⟩ (.string ⟨#[]⟩)):=((((HT2.out.setNew (Nat.le_refl _) _ _).setNew (Nat.le_refl _) _ _).setNew (Nat.le_refl _) _ _).setNew (Nat.le_refl _) _ _).setNew (Nat.le_refl _) _ _
  have HWB:Blk (((((w1.setCell ⟨w.heap.size,0,none⟩ (.int .u8 0)).setCell ⟨w.heap.size,1,none⟩ (.int .i64 0)).setCell ⟨w.heap.size,2,none⟩ (.int .u64 0)).setCell ⟨w.heap.size,3,none⟩ (.int .u64 0)).setCell ⟨w.heap.size,4,none⟩ (.string ⟨#[]⟩)) w.heap.size #[.int .u8 0, .int .i64 0, .int .u64 0, .int .u64 0, .string ⟨#[]⟩] 125:=((((HQ6.out.set 0 _).set 1 _).set 2 _).set 3 _).set 4 _
  generalize ((((w1.setCell ⟨w.heap.size,0,none⟩ (.int .u8 0)).setCell ⟨w.heap.size,1,none⟩ (.int .i64 0)).setCell ⟨w.heap.size,2,none⟩ (.int .u64 0)).setCell ⟨w.heap.size,3,none⟩ (.int .u64 0)).setCell ⟨w.heap.size,4,none⟩ (.string ⟨#[]⟩)=W6 at HRW HTW HWB⊢
  refine bodyPost_ret (v:= .agg #[.int .u8 0, .int .i64 0, .int .u64 0, .int .u64 0, .string ⟨#[]⟩]) (res45 HWB rfl) rfl ⟨?_, ?_, ?_⟩
  ·rw [hE.out];rfl
  ·rw [hE.out];exact HRW
  ·exact HTW
end Go.Proofs.YtodbhliidbclcaaGreat
