/-
The program's cell: Take.
-/
import Derived.RangeFuncNested
import Derived.RangeFuncBound
import Derived.RangeFuncCalls
import Derived.RangeFuncLeaves
import Derived.RangeFuncBox
import Derived.Shelf.Abstract
import Derived.Shelf.RegionOpen
import Derived.OwnWalkIn
import Derived.TacticsInMore
import Derived.LoopNIn
import Derived.LoopIn
import Derived.Maps.AppendAt
import Derived.ProofKit
import Derived.OpenShut
import Derived.Deep.Slices
import Derived.Carry
import Derived.Test.YtodbhliidbclcaaGreatP15
set_option maxRecDepth 100000
set_option maxHeartbeats 16000000
namespace Go.Proofs.YtodbhliidbclcaaGreat
open Go.RowKit
def KRel (g d:Nat) (w:World) (R:(K×Nat)×RS) (c:K) (m:Nat) (wx:World):Prop:=
 (R.2.e=0→(c,m)=R.1)∧Blk wx (w.heap.size+1) #[.int .u8 c.k, .int .u8 c.v.ty, .int .i64 c.v.n, .complex .f64 c.v.x c.v.y, .string c.v.s] 157∧Blk wx w.heap.size #[.int .u8 0, .int .u8 0, .int .i64 0, .complex .f64 0 0, .string ByteArray.empty] 157∧RD wx g d R.2∧Tch g w wx
theorem ktake_end {r:(K×Nat)×RS} (h:r.2.e≠0):finC r=((K.zero,0),r.2):=by unfold finC;rw [if_pos h]
theorem ctake_any (g d:Nat) (st:RS) (kind ver:Int) (w:World) (h:RD w g d st) (hk0:0≤kind) (hk1:kind<256):
 Calls Tryz.prog 85 #[.pointer (some ⟨g,0,none⟩), .int .u8 kind, .int .u8 ver] w fun e w' =>
  e= .returned (.tuple #[(takeC kind ver st).1.1.agg, .int .i64 (takeC kind ver st).1.2])∧RD w' g d (takeC kind ver st).2∧Tch g w w' :=by
 have H:=Hm h
 have hg:=h.lt
 have hok:st.ok:=by obtain ⟨_,_,_,hok,_⟩:=h;exact hok
 clear h
 unfold takeC
 obtain ⟨R,hR⟩:∃R,R=preC kind ver st:=⟨_,rfl⟩
 rw [←hR]
 have HRR:=Hm hR
 clear hR
 go_enter Tryz.func85,Tryz.ntmps85
 go_upto_block 0 with (fail)
 go_cut [9] (fun p wx=>∃(c:K) (m:Nat),p= .int .i64 m∧Hid (KRel g d w R c m wx))
 case first=>
  as_aux_lemma=>
   by_cases hv:ver=1∨ver=2
   ·by_cases hkd:kind<1∨6<kind
    ·have hpre:R=((K.zero,0),giveS st 11):=by rw [HRR.out];unfold preC;rw [if_neg (fun h=>h hv),if_pos hkd]
     have HP:=Hm hpre
     have HTY:=Hm (fun w=>typed_no kind w hkd)
     have HF:=Hm (fun w h=>fail_any g d st 11 w h)
     have hf:failS st 11=giveS st 11:=by unfold failS;rw [if_pos (by decide)]
     rw [hf] at HF
     have hv1:1≤ver:=by omega
     have hv2:ver≤2:=by omega
     clear hpre hf hkd hv
     go_wp2_with (first
      |(go_at_call 111;refine (HTY.out _).mono ?_;rintro e w7 ⟨rfl,rfl⟩)
      |(go_at_call 53;refine (HF.out _ (H.out.ext (by exact eX))).mono ?_;rintro e w1 ⟨rfl,hr1,ht1⟩;have h8:=(Blk.new' (w:=w.alloc (.cells #[.int .u8 0, .int .u8 0, .int .i64 0, .complex .f64 0 0, .string ByteArray.empty] 157)) (b:=w.heap.size+1) #[.int .u8 0, .int .u8 0, .int .i64 0, .complex .f64 0 0, .string ByteArray.empty] 157 (by simp)).tch ht1 (by omega);have h6:=((Blk.new w #[.int .u8 0, .int .u8 0, .int .i64 0, .complex .f64 0 0, .string ByteArray.empty] 157).alloc (.cells #[.int .u8 0, .int .u8 0, .int .i64 0, .complex .f64 0 0, .string ByteArray.empty] 157)).tch ht1 (by omega);have HB8:=Hm h8;have HB6:=Hm h6;have k8:=h8.cell;have f8:=h8.frozen;have z8:=h8.lt;have HR1:=Hm hr1;have HT1:Hid (Tch g w w1):=Hm ((((Tch.refl g w).alloc _).alloc _).trans ht1);clear h8 h6 hr1 ht1))
     go_meet
     case rel=>exact ⟨K.zero,0,rfl,Hm ⟨fun _=>by rw [HP.out],HB8.out,HB6.out,by rw [HP.out];exact HR1.out,HT1.out⟩⟩
    have HTY:=Hm (fun w=>typed_yes kind w (by omega) (by omega))
    rcases hv with rfl|rfl
    ·have hpre:R=firstC kind st:=by rw [HRR.out];unfold preC;rw [if_neg (fun h=>h (.inl rfl)),if_neg hkd,if_pos rfl]
     have HF:=Hm (fun w h=>first_any g d st kind w h hk0 hk1)
     rw [←hpre] at HF
     clear hpre hkd
     go_wp2_with (first
      |(go_at_call 111;refine (HTY.out _).mono ?_;rintro e w7 ⟨rfl,rfl⟩)
      |(go_at_call 112;refine (HF.out _ (H.out.ext (by exact eX))).mono ?_;rintro e w1 ⟨⟨ck,cty,cn,cx,cy,cs⟩,m,rfl,hc1,hr1,ht1⟩;simp only [K.agg];have HC1:=Hm hc1;clear hc1;have h8:=(Blk.new' (w:=w.alloc (.cells #[.int .u8 0, .int .u8 0, .int .i64 0, .complex .f64 0 0, .string ByteArray.empty] 157)) (b:=w.heap.size+1) #[.int .u8 0, .int .u8 0, .int .i64 0, .complex .f64 0 0, .string ByteArray.empty] 157 (by simp)).tch ht1 (by omega);have h6:=((Blk.new w #[.int .u8 0, .int .u8 0, .int .i64 0, .complex .f64 0 0, .string ByteArray.empty] 157).alloc (.cells #[.int .u8 0, .int .u8 0, .int .i64 0, .complex .f64 0 0, .string ByteArray.empty] 157)).tch ht1 (by omega);have HB8:=Hm h8;have HB6:=Hm h6;have k8:=h8.cell;have f8:=h8.frozen;have z8:=h8.lt;have HR1:=Hm hr1;have HT1:Hid (Tch g w w1):=Hm ((((Tch.refl g w).alloc _).alloc _).trans ht1);clear h8 h6 hr1 ht1))
     go_meet
     case rel=>exact ⟨⟨ck,cty,cn,cx,cy,cs⟩,m,rfl,Hm ⟨HC1.out,Blk.five HB8.out,((((HB6.out.other _ _ (by simp)).other _ _ (by simp)).other _ _ (by simp)).other _ _ (by simp)).other _ _ (by simp),RD.five HR1.out (by omega),Tch.five HT1.out (by omega)⟩⟩
    ·by_cases hk:kind=5∨kind=6
     ·have hpre:R=secondC kind st:=by rw [HRR.out];unfold preC;rw [if_neg (fun h=>h (.inr rfl)),if_neg hkd,if_neg (by decide),if_pos hk]
      have HF:=Hm (fun w h=>second_any g d st kind w h)
      rw [←hpre] at HF
      have HX:=Hm (fun w=>texty_yes kind w hk)
      clear hpre hkd hk
      go_wp2_with (first
       |(go_at_call 111;refine (HTY.out _).mono ?_;rintro e w7 ⟨rfl,rfl⟩)
       |(go_at_call 113;refine (HX.out _).mono ?_;rintro e w8 ⟨rfl,rfl⟩)
       |(go_at_call 114;refine (HF.out _ (H.out.ext (by exact eX))).mono ?_;rintro e w1 ⟨⟨ck,cty,cn,cx,cy,cs⟩,m,rfl,hc1,hr1,ht1⟩;simp only [K.agg];have HC1:=Hm hc1;clear hc1;have h8:=(Blk.new' (w:=w.alloc (.cells #[.int .u8 0, .int .u8 0, .int .i64 0, .complex .f64 0 0, .string ByteArray.empty] 157)) (b:=w.heap.size+1) #[.int .u8 0, .int .u8 0, .int .i64 0, .complex .f64 0 0, .string ByteArray.empty] 157 (by simp)).tch ht1 (by omega);have h6:=((Blk.new w #[.int .u8 0, .int .u8 0, .int .i64 0, .complex .f64 0 0, .string ByteArray.empty] 157).alloc (.cells #[.int .u8 0, .int .u8 0, .int .i64 0, .complex .f64 0 0, .string ByteArray.empty] 157)).tch ht1 (by omega);have HB8:=Hm h8;have HB6:=Hm h6;have k8:=h8.cell;have f8:=h8.frozen;have z8:=h8.lt;have HR1:=Hm hr1;have HT1:Hid (Tch g w w1):=Hm ((((Tch.refl g w).alloc _).alloc _).trans ht1);clear h8 h6 hr1 ht1))
      go_meet
      case rel=>exact ⟨⟨ck,cty,cn,cx,cy,cs⟩,m,rfl,Hm ⟨HC1.out,Blk.five HB8.out,((((HB6.out.other _ _ (by simp)).other _ _ (by simp)).other _ _ (by simp)).other _ _ (by simp)).other _ _ (by simp),RD.five HR1.out (by omega),Tch.five HT1.out (by omega)⟩⟩
     ·have hpre:R=((⟨2,(takeV kind 2 st).1⟩,0),(takeV kind 2 st).2):=by rw [HRR.out];unfold preC;rw [if_neg (fun h=>h (.inr rfl)),if_neg hkd,if_neg (by decide),if_neg hk]
      have HF:=Hm (fun w h=>vtake_any g d st kind 2 w h hk0 hk1)
      have HX:=Hm (fun w=>texty_no kind w (by omega))
      generalize takeV kind 2 st=U at*
      obtain ⟨⟨ty,n,x,y,s⟩,S2⟩:=U
      simp only at HF hpre
      have HP:=Hm hpre
      clear hpre hkd hk
      go_wp2_with (first
       |(go_at_call 111;refine (HTY.out _).mono ?_;rintro e w7 ⟨rfl,rfl⟩)
       |(go_at_call 113;refine (HX.out _).mono ?_;rintro e w8 ⟨rfl,rfl⟩)
       |(go_at_call 116;refine (HF.out _ (H.out.ext (by exact eX))).mono ?_;rintro e w1 ⟨rfl,hr1,ht1⟩;have h8:=(Blk.new' (w:=w.alloc (.cells #[.int .u8 0, .int .u8 0, .int .i64 0, .complex .f64 0 0, .string ByteArray.empty] 157)) (b:=w.heap.size+1) #[.int .u8 0, .int .u8 0, .int .i64 0, .complex .f64 0 0, .string ByteArray.empty] 157 (by simp)).tch ht1 (by omega);have h6:=((Blk.new w #[.int .u8 0, .int .u8 0, .int .i64 0, .complex .f64 0 0, .string ByteArray.empty] 157).alloc (.cells #[.int .u8 0, .int .u8 0, .int .i64 0, .complex .f64 0 0, .string ByteArray.empty] 157)).tch ht1 (by omega);have HB8:=Hm h8;have HB6:=Hm h6;have k8:=h8.cell;have f8:=h8.frozen;have z8:=h8.lt;have HR1:=Hm hr1;have HT1:Hid (Tch g w w1):=Hm ((((Tch.refl g w).alloc _).alloc _).trans ht1);clear h8 h6 hr1 ht1;clear k8 f8 z8)
       |(go_at_call 115;refine (celof_any ty n x y s _).mono ?_;rintro e w3 ⟨rfl,hb3⟩;have h8:=HB8.out.ext hb3;have HC8:=Hm h8;have k8:=h8.cell;have f8:=h8.frozen;have z8:=h8.lt;have HC6:=Hm (HB6.out.ext hb3);have HR3:=Hm (HR1.out.ext hb3);have HT3:=Hm (HT1.out.trans (Tch.of_ext hb3));clear h8 hb3))
      go_meet
      case rel=>exact ⟨⟨2,⟨ty,n,x,y,s⟩⟩,0,rfl,Hm ⟨fun _=>by rw [HP.out],Blk.five HC8.out,((((HC6.out.other _ _ (by simp)).other _ _ (by simp)).other _ _ (by simp)).other _ _ (by simp)).other _ _ (by simp),by rw [HP.out];exact RD.five HR3.out (by omega),Tch.five HT3.out (by omega)⟩⟩
   ·have hpre:R=((K.zero,0),giveS st 18):=by rw [HRR.out];unfold preC;rw [if_pos hv]
    have HP:=Hm hpre
    have HF:=Hm (fun w h=>fail_any g d st 18 w h)
    have hf:failS st 18=giveS st 18:=by unfold failS;rw [if_pos (by decide)]
    rw [hf] at HF
    clear hpre hf
    by_cases h1:ver<1
    ·clear hv
     go_wp2_with (go_at_call 53;refine (HF.out _ (H.out.ext (by exact eX))).mono ?_;rintro e w1 ⟨rfl,hr1,ht1⟩;have h8:=(Blk.new' (w:=w.alloc (.cells #[.int .u8 0, .int .u8 0, .int .i64 0, .complex .f64 0 0, .string ByteArray.empty] 157)) (b:=w.heap.size+1) #[.int .u8 0, .int .u8 0, .int .i64 0, .complex .f64 0 0, .string ByteArray.empty] 157 (by simp)).tch ht1 (by omega);have h6:=((Blk.new w #[.int .u8 0, .int .u8 0, .int .i64 0, .complex .f64 0 0, .string ByteArray.empty] 157).alloc (.cells #[.int .u8 0, .int .u8 0, .int .i64 0, .complex .f64 0 0, .string ByteArray.empty] 157)).tch ht1 (by omega);have HB8:=Hm h8;have HB6:=Hm h6;have k8:=h8.cell;have f8:=h8.frozen;have z8:=h8.lt;have HR1:=Hm hr1;have HT1:Hid (Tch g w w1):=Hm ((((Tch.refl g w).alloc _).alloc _).trans ht1);clear h8 h6 hr1 ht1)
     go_meet
     case rel=>exact ⟨K.zero,0,rfl,Hm ⟨fun _=>by rw [HP.out],HB8.out,HB6.out,by rw [HP.out];exact HR1.out,HT1.out⟩⟩
    ·have h2:2<ver:=by omega
     clear hv
     go_wp2_with (go_at_call 53;refine (HF.out _ (H.out.ext (by exact eX))).mono ?_;rintro e w1 ⟨rfl,hr1,ht1⟩;have h8:=(Blk.new' (w:=w.alloc (.cells #[.int .u8 0, .int .u8 0, .int .i64 0, .complex .f64 0 0, .string ByteArray.empty] 157)) (b:=w.heap.size+1) #[.int .u8 0, .int .u8 0, .int .i64 0, .complex .f64 0 0, .string ByteArray.empty] 157 (by simp)).tch ht1 (by omega);have h6:=((Blk.new w #[.int .u8 0, .int .u8 0, .int .i64 0, .complex .f64 0 0, .string ByteArray.empty] 157).alloc (.cells #[.int .u8 0, .int .u8 0, .int .i64 0, .complex .f64 0 0, .string ByteArray.empty] 157)).tch ht1 (by omega);have HB8:=Hm h8;have HB6:=Hm h6;have k8:=h8.cell;have f8:=h8.frozen;have z8:=h8.lt;have HR1:=Hm hr1;have HT1:Hid (Tch g w w1):=Hm ((((Tch.refl g w).alloc _).alloc _).trans ht1);clear h8 h6 hr1 ht1)
     go_meet
     case rel=>exact ⟨K.zero,0,rfl,Hm ⟨fun _=>by rw [HP.out],HB8.out,HB6.out,by rw [HP.out];exact HR1.out,HT1.out⟩⟩
 case rest=>
  obtain ⟨⟨ck,cty,cn,cx,cy,cs⟩,m,rfl,hk⟩:=hcut
  obtain ⟨hc1,h8,h6,hr,ht⟩:=hk.out
  simp only at h8
  have HER:=Hm (fun w h=>rerr_any g d R.2 w h)
  have k8:=h8.cell
  have k6:=h6.cell
  have f6:=h6.frozen
  have z6:=h6.lt
  have HB6:=Hm h6
  have HR1:=Hm hr
  have HT1:=Hm ht
  have HC1:=Hm hc1
  clear h8 h6 hr ht hc1 hk
  by_cases he:R.2.e=0
  ·have hfin:finC R=R:=finC_ok he
   rw [he] at HER
   have HE:=Hm he
   have HFI:=Hm hfin
   clear he hfin
   go_wp2_with (go_at_call 83;refine (HER.out _ HR1.out).mono ?_;rintro e w9 ⟨rfl,rfl⟩)
   refine bodyPost_ret (v:= .tuple #[(⟨ck,⟨cty,cn,cx,cy,cs⟩⟩:K).agg, .int .i64 m]) (res_ctake (Blk.five HB6.out) rfl rfl) rfl ⟨?_,by rw [HFI.out];exact RD.five HR1.out hg,Tch.five HT1.out (Nat.le_refl _)⟩
   rw [HFI.out,←HC1.out HE.out]
  ·have hfin:=ktake_end he
   have he2:(R.2.e !=0)=true:=by simpa using he
   have HFI:=Hm hfin
   clear he hfin
   go_wp2_with (go_at_call 83;refine (HER.out _ HR1.out).mono ?_;rintro e w9 ⟨rfl,rfl⟩)
   refine bodyPost_ret (v:= .tuple #[K.zero.agg, .int .i64 (0:Nat)]) (res_ctake (Blk.five HB6.out) rfl rfl) rfl ⟨by rw [HFI.out],by rw [HFI.out];exact RD.five HR1.out hg,Tch.five HT1.out (Nat.le_refl _)⟩
open Go.RowKit Go.Shelf
attribute [local go_sem] Oper.semAt_some
theorem Tryz.infoHole:(Tryz.prog.info? 103).map (fun i=>(i.zero,i.size,i.bytes))=some (some (.agg #[.int .i64 0, .int .i64 0]),2,16):=by kernel_rfl
end Go.Proofs.YtodbhliidbclcaaGreat
namespace Go.Proofs.YtodbhliidbclcaaGreat
open Go.RowKit
theorem owns_grown2 {w w1:World} {row:Option Nat} {base:Nat} {e:TypeId} {size n:Nat} {v:Value} {xs:List Value} (h:w.ownsRow base e size v n xs) (hg:w.grownBy w1 row) (hne:∀g,v.ownBlock=some g→row≠some g):w1.ownsRow base e size v n xs:=by
 obtain ⟨h1,h2⟩:=h
 refine ⟨h1, ?_⟩
 rcases h2 with h2|⟨g,cap,cur,hv,hb,hh,hr⟩
 ·exact .inl h2
 ·have hlt:g<w.heap.size:=Blk.lt (b:=g) hh
  exact .inr ⟨g,cap,cur,hv,hb,(hg.block g hlt (fun e=>hne g (by rw [hv];rfl) e.symm)).trans hh,hr⟩
theorem owns_apart {w:World} {b1 b2:Nat} {e1 e2:TypeId} {s1 s2 n1 n2:Nat} {v1 v2:Value} {x1 x2:List Value} (h1:w.ownsRow b1 e1 s1 v1 n1 x1) (h2:w.ownsRow b2 e2 s2 v2 n2 x2) (hne:e1≠e2):∀g,v1.ownBlock=some g→v2.ownBlock≠some g:=by
 intro g hg hg2
 rcases h1.2 with ⟨rfl, -⟩|⟨k1,c1,r1,rfl, -,q1, -⟩
 ·simp [Value.ownBlock] at hg
 ·rcases h2.2 with ⟨rfl, -⟩|⟨k2,c2,r2,rfl, -,q2, -⟩
  ·simp [Value.ownBlock] at hg2
  ·simp [Value.ownBlock] at hg hg2
   subst hg hg2
   rw [q1] at q2
   simp at q2
   exact hne q2.2
theorem Tryz.infoHoleR:(Tryz.prog.info? 104).map (fun i=>(i.zero,i.size,i.bytes))=some (some (.agg #[.int .i64 0, .int .i64 0]),2,16):=by kernel_rfl
theorem right_cols16 {r:Rl} (h:r.right=0):r.cols.length≤16∧∀i (hi:i<r.cols.length),1≤r.cols[i].ty∧r.cols[i].ty≤6:=by
 unfold Rl.right at h
 by_cases h1:r.oid=0∨r.ver=0
 ·rw [if_pos h1] at h;cases h
 rw [if_neg h1] at h
 by_cases h2:namedB r.nm=false
 ·rw [if_pos h2] at h;cases h
 rw [if_neg h2] at h
 by_cases h3:2<r.id
 ·rw [if_pos h3] at h;cases h
 rw [if_neg h3] at h
 by_cases h4:r.cols.length<1∨16<r.cols.length
 ·rw [if_pos h4] at h;cases h
 rw [if_neg h4] at h
 by_cases h5:firstE (colAt r.cols) r.cols.length≠0
 ·rw [if_pos h5] at h;exact absurd h h5
 refine ⟨by omega,fun i hi=> ?_⟩
 have h6:=firstE_all (by simpa using h5) i hi
 rw [colAt_lt hi] at h6
 unfold colE at h6
 by_cases q1:namedB r.cols[i].nm=false
 ·rw [if_pos q1] at h6;cases h6
 rw [if_neg q1] at h6
 by_cases q2:(r.cols.take i).any (fun o=>decide (o.nm=r.cols[i].nm))=true
 ·rw [if_pos q2] at h6;cases h6
 rw [if_neg q2] at h6
 by_cases q3:r.cols[i].ty<1∨6<r.cols[i].ty
 ·rw [if_pos q3] at h6;cases h6
 ·omega
theorem fail_zero {st:RS} {x:Int} (h:(failS st x).e=0):x=0∧st.e=0∧failS st x=st:=by
 unfold failS at h⊢
 by_cases hx:x=0
 ·subst hx;rw [if_neg (by decide)] at h⊢;exact ⟨rfl,h,rfl⟩
 ·rw [if_pos hx] at h
  unfold giveS at h
  by_cases he:st.e=0
  ·rw [if_pos he] at h;exact absurd h hx
  ·rw [if_neg he] at h;exact absurd h he
theorem give_bad (st:RS) {x:Int} (hx:x≠0):(giveS st x).e≠0:=by
 unfold giveS;split
 ·exact hx
 ·assumption
theorem owns_far {W:World} {base X:Nat} {e:TypeId} {size n:Nat} {v:Value} {xs:List Value} (h:W.ownsRow base e size v n xs) (hX:∀k,v.ownBlock=some k→k≠X) (i:Nat) (u:Value):(W.setCell ⟨X,i,none⟩ u).ownsRow base e size v n xs:=by
 obtain ⟨h1,h2⟩:=h
 refine ⟨h1, ?_⟩
 rcases h2 with h2|⟨k,cap,cur,hv,hb,hh,hr⟩
 ·exact .inl h2
 ·exact .inr ⟨k,cap,cur,hv,hb,Blk.other (b:=k) hh _ _ (hX k (by rw [hv];rfl)),hr⟩
theorem owns_five {W:World} {base X:Nat} {e:TypeId} {size n:Nat} {v:Value} {xs:List Value} {v0 v1 v2 v3 v4:Value} (h:W.ownsRow base e size v n xs) (hX:∀k,v.ownBlock=some k→k≠X):
 (((((W.setCell ⟨X,0,none⟩ v0).setCell ⟨X,1,none⟩ v1).setCell ⟨X,2,none⟩ v2).setCell ⟨X,3,none⟩ v3).setCell ⟨X,4,none⟩ v4).ownsRow base e size v n xs:=
 owns_far (owns_far (owns_far (owns_far (owns_far h hX _ _) hX _ _) hX _ _) hX _ _) hX _ _
theorem owns_lt2 {w:World} {base:Nat} {e:TypeId} {size n:Nat} {v:Value} {xs:List Value} (h:w.ownsRow base e size v n xs):∀k,v.ownBlock=some k→base≤k∧k<w.heap.size:=by
 intro k hk
 rcases h.2 with ⟨rfl,_⟩|⟨g',cap,cur,rfl,hb,hh,hr⟩
 ·simp [Value.ownBlock] at hk
 ·simp [Value.ownBlock] at hk;subst hk;exact ⟨hb,Blk.lt (b:=g') hh⟩
def takeP (r:Rl) (ver:Int) (st:RS):(List K×List Ho)×RS:=
 if (begR r ver st).e≠0 then (([], []),begR r ver st)
 else finT (tkUp (mapR r.cols.length (begR r ver st)).1 r.cols ver (mapR r.cols.length (begR r ver st)).2 (mapR r.cols.length (begR r ver st)).1.length)
theorem mapR_len {n:Nat} {st:RS} :(mapR n st).1.length≤n:=by
 unfold mapR unmapL
 simp only
 split
 ·exact Nat.zero_le _
 ·simp [unbits_len]
def TkPost (R:(List K×List Ho)×RS) (g d:Nat) (w:World) (e:Ending) (w' :World):Prop:=
 ∃a1 c1 a2 c2,e= .returned (.tuple #[.slice a1 R.1.1.length c1, .slice a2 R.1.2.length c2])∧Sl w' (.slice a1 R.1.1.length c1) 5 (R.1.1.map K.pc)∧Sl w' (.slice a2 R.1.2.length c2) 2 (R.1.2.map Ho.cells)∧
  (∀k o,a1=some ⟨k,o,none⟩→w.heap.size≤k)∧(∀k o,a2=some ⟨k,o,none⟩→w.heap.size≤k)∧RD w' g d R.2∧Tch g w w'
theorem TkPost.bad {R:(List K×List Ho)×RS} {S:RS} {g d:Nat} {w w' :World} (h:R=(([], []),S)) (hr:RD w' g d S) (ht:Tch g w w'):TkPost R g d w (.returned (.tuple #[.slice none 0 0, .slice none 0 0])) w' :=by
 subst h
 exact ⟨none,0,none,0,rfl,⟨none,0,rfl, .inl rfl⟩,⟨none,0,rfl, .inl rfl⟩,(fun _ _ e=>by cases e),(fun _ _ e=>by cases e),hr,ht⟩
theorem pc_len {l:List K} :∀xs∈l.map K.pc,xs.length=5:=by intro xs hxs;simp at hxs;obtain ⟨a,_,rfl⟩:=hxs;rfl
theorem ho_len {l:List Ho} :∀xs∈l.map Ho.cells,xs.length=2:=by intro xs hxs;simp at hxs;obtain ⟨a,_,rfl⟩:=hxs;rfl
theorem take_any (g d:Nat) (st:RS) (oid ver:Int) (nm:ByteArray) (id:Int) (cols:List Col) (a2:Option Addr) (cap2:Nat) (version:Int) (w:World) (h:RD w g d st) (hl2:Sl w (.slice a2 cols.length cap2) 3 (cols.map Col.cells)) (ha2:∀b o,a2=some ⟨b,o,none⟩→cols≠ []→b≠g)
 (hcap2:cols.length≤cap2) (hlen2:cols.length≤1000) (hs2:∀c∈cols,c.nm.size≤9223372036854775807) (hnm:nm.size≤9223372036854775807):
 Calls Tryz.prog 54 #[.pointer (some ⟨g,0,none⟩), .agg #[.int .u32 oid, .int .u32 ver, .string nm, .int .u8 id, .slice a2 cols.length cap2], .int .u8 version] w (TkPost (takeP (⟨oid,ver,nm,id,cols⟩:Rl) version st) g d w):=by
 have hg:=h.lt
 have H:=Hm h
 have HR8:=Hm (fun W (h:Ext w W)=>right8_any oid ver nm id cols a2 cap2 W (hl2.ext h) hcap2 hlen2 hnm hs2)
 have HFA:=Hm (fun S x w h=>fail_any g d S x w h)
 have HER:=Hm (fun S w h=>rerr_any g d S w h)
 have HTP:Hid (takeP (⟨oid,ver,nm,id,cols⟩:Rl) version st=if (begR (⟨oid,ver,nm,id,cols⟩:Rl) version st).e≠0 then (([], []),begR (⟨oid,ver,nm,id,cols⟩:Rl) version st) else finT (tkUp (mapR cols.length (begR (⟨oid,ver,nm,id,cols⟩:Rl) version st)).1 cols version (mapR cols.length (begR (⟨oid,ver,nm,id,cols⟩:Rl) version st)).2 (mapR cols.length (begR (⟨oid,ver,nm,id,cols⟩:Rl) version st)).1.length)):=Hm rfl
 have HBR:Hid (begR (⟨oid,ver,nm,id,cols⟩:Rl) version st=if version=1∨version=2 then failS st (Rl.right (⟨oid,ver,nm,id,cols⟩:Rl)) else giveS (failS st (Rl.right (⟨oid,ver,nm,id,cols⟩:Rl))) 18):=Hm rfl
 have HC16:=Hm (right_cols16 (r:=(⟨oid,ver,nm,id,cols⟩:Rl)))
 have HL2:=Hm hl2
 clear h hl2 hs2 hnm
 obtain ⟨E,hE⟩:∃E,E=Rl.right (⟨oid,ver,nm,id,cols⟩:Rl):=⟨_,rfl⟩
 rw [←hE] at HR8 HBR HC16
 clear hE
 by_cases hv:version=1∨version=2
 case neg=>
  have HB2:=Hm (HBR.out.trans (if_neg hv))
  have hne:(begR (⟨oid,ver,nm,id,cols⟩:Rl) version st).e≠0:=by rw [HB2.out];exact give_bad _ (by decide)
  have HT2:=Hm (HTP.out.trans (if_pos hne))
  rw [HB2.out] at HT2 hne
  have hf18:failS (failS st E) 18=giveS (failS st E) 18:=by unfold failS;rw [if_pos (show (18:Int)≠0 by decide)]
  have HF18:=Hm (HFA.out (failS st E) 18)
  rw [hf18] at HF18
  obtain ⟨S,hS⟩:∃S,S=giveS (failS st E) 18:=⟨_,rfl⟩
  rw [←hS] at HT2 hne HF18
  have hne2:(S.e==0)=false:=by simpa using hne
  have hne3:(S.e !=0)=true:=by simpa using hne
  have hv2:version<1∨2<version:=by omega
  clear hv HBR HB2 hf18 hne hS HTP
  rcases hv2 with hv2|hv2
  all_goals
   go_enter Tryz.func54,Tryz.ntmps54
   go_upto_region 2 with (first
    |(go_at_call 75;refine (HR8.out _ (by exact eX)).mono ?_;rintro e w1 ⟨rfl,hb1⟩)
    |(go_at_call 53;refine (HFA.out st E _ (H.out.ext (by exact eX))).mono ?_;rintro e w2 ⟨rfl,hr2,ht2⟩;have HR2:=Hm hr2;have HT3:=Hm ((Tch.of_ext (show Ext w w1 by exact eX)).trans ht2);clear hr2 ht2))
   go_wp2_with (first
    |(go_at_call 53;refine (HF18.out _ HR2.out).mono ?_;rintro e w3 ⟨rfl,hr3,ht3⟩;have HR3:=Hm hr3;have HT4:=Hm (HT3.out.trans ht3);clear hr3 ht3)
    |(go_at_call 83;refine (HER.out S _ HR3.out).mono ?_;rintro e w4 ⟨rfl,rfl⟩))
   go_ret2
   exact TkPost.bad HT2.out HR3.out HT4.out
 have HB2:=Hm (HBR.out.trans (if_pos hv))
 have hv1:1≤version:=by omega
 have hv2:version≤2:=by omega
 clear hv HBR
 rw [HB2.out] at HTP
 by_cases he:(failS st E).e=0
 case neg=>
  have HT2:=Hm (HTP.out.trans (if_pos he))
  obtain ⟨S,hS⟩:∃S,S=failS st E:=⟨_,rfl⟩
  have HFE:=Hm (HFA.out st E)
  rw [←hS] at HT2 he HFE
  have hne2:(S.e==0)=false:=by simpa using he
  have hne3:(S.e !=0)=true:=by simpa using he
  clear he hS HTP HB2 HFA
  go_enter Tryz.func54,Tryz.ntmps54
  go_wp2_with (first
   |(go_at_call 75;refine (HR8.out _ (by exact eX)).mono ?_;rintro e w1 ⟨rfl,hb1⟩)
   |(go_at_call 53;refine (HFE.out _ (H.out.ext (by exact eX))).mono ?_;rintro e w2 ⟨rfl,hr2,ht2⟩;have HR2:=Hm hr2;have HT3:=Hm ((Tch.of_ext (show Ext w w1 by exact eX)).trans ht2);clear hr2 ht2)
   |(go_at_call 83;refine (HER.out S _ HR2.out).mono ?_;rintro e w4 ⟨rfl,rfl⟩))
  go_ret2
  exact TkPost.bad HT2.out HR2.out HT3.out
 obtain ⟨hE0,hst,hfs⟩:=fail_zero he
 subst hE0
 rw [hfs] at HTP
 have HT2:=Hm (HTP.out.trans (if_neg (by simpa using hst)))
 obtain ⟨hc16,hty⟩:=HC16.out rfl
 have HTY:=Hm hty
 have hc16:cols.length≤16:=hc16
 have HFE:=Hm (HFA.out st 0)
 rw [hfs] at HFE
 have HM:=Hm (fun W h=>mapped_any g d cols.length st W h hc16)
 unfold MapPost at HM
 have hml:=mapR_len (n:=cols.length) (st:=st)
 obtain ⟨L,hL⟩:∃L,L=(mapR cols.length st).1:=⟨_,rfl⟩
 obtain ⟨S,hS⟩:∃S,S=(mapR cols.length st).2:=⟨_,rfl⟩
 rw [←hL,←hS] at HT2 HM
 rw [←hL] at hml
 have hst2:(st.e==0)=true:=by simpa using hst
 clear he hfs hty HTP HB2 HC16 hL hS hst
 go_enter Tryz.func54,Tryz.ntmps54
 go_wp2_with (first
  |(go_at_call 75;refine (HR8.out _ (by exact eX)).mono ?_;rintro e w1 ⟨rfl,hb1⟩;have HE1:=Hm hb1;clear hb1)
  |(go_at_call 53;refine (HFE.out _ (H.out.ext (((Ext.refl w).alloc _).trans HE1.out))).mono ?_;rintro e w2 ⟨rfl,hr2,ht2⟩;have HR2:=Hm hr2;have HT3:=Hm ((Tch.of_ext HE1.out).trans ht2);have g0:=((Blk.new w #[.int .u32 oid, .int .u32 ver, .string nm, .int .u8 id, .slice a2 cols.length cap2] 120).tch HT3.out (by omega)).cell;have z0:=((Blk.new w #[.int .u32 oid, .int .u32 ver, .string nm, .int .u8 id, .slice a2 cols.length cap2] 120).tch HT3.out (by omega)).lt;clear hr2 ht2)
  |(go_at_call 83;refine (HER.out st _ HR2.out).mono ?_;rintro e w4 ⟨rfl,rfl⟩)
  |(go_at_call 84;refine (HM.out _ HR2.out).mono ?_;rintro e w5 ⟨a5,c5,rfl,hs5,ha5,hr5,ht5⟩;have H5:=Hm hs5;have HA5:=Hm (fun k o e=>Nat.lt_of_lt_of_le z0 (ha5 k o e));have HR5:=Hm hr5;have HT5:=Hm (HT3.out.trans ht5);clear hs5 ha5 hr5 ht5 g0))
 obtain ⟨i0,hi,hz0,hz1,hz2⟩:=info_parts Tryz.infoCellP
 obtain ⟨j0,hj,hy0,hy1,hy2⟩:=info_parts Tryz.infoHole
 have hTL:Hid (Tch g (w.alloc (.cells #[.int .u32 oid, .int .u32 ver, .string nm, .int .u8 id, .slice a2 cols.length cap2] 120)) w5):=HT5
 obtain ⟨T,hT⟩:∃T:Nat→(List K×List Ho)×RS,T=tkUp L cols version S:=⟨_,rfl⟩
 have HTD:=Hm hT
 have hT0:T 0=(([], []),S):=by rw [hT];rfl
 have HTlen:Hid (∀k,k≤L.length→(T k).1.1.length=k):=Hm (fun k hk=>by rw [hT];exact tkUp_len k hk (by omega))
 have HThol:Hid (∀k,(T k).1.2.length≤k):=Hm (fun k=>by rw [hT];exact tkUp_holes k)
 have HTnull:Hid (∀k (h1:k<L.length),L[k]=true→T (k+1)=(((T k).1.1++ [K.zero],(T k).1.2),(T k).2)):=Hm (fun k h1 h=>by rw [hT];exact tkUp_null h1 (by omega) h)
 have HTcell:Hid (∀k (h1:k<L.length) (h2:k<cols.length),L[k]=false→∀c m U,takeC cols[k].ty version (T k).2=((c,m),U)→T (k+1)=(((T k).1.1++ [c],if 0<m then (T k).1.2++ [⟨k,(m:Nat)⟩] else (T k).1.2),U)):=Hm (fun k h1 h2 h c m U he=>by rw [hT] at he⊢;exact tkUp_cell h1 h2 h he)
 have HTfin:=Hm (HT2.out.trans (show _=finT (T L.length) by rw [hT]))
 have HT0:=Hm hT0
 clear hT hT0 HT2 HTD
 have hz5:=HT5.out.size
 simp at hz5
 go_loopw [8,9,35] (fun v u i wr=>∃k:Nat,k≤L.length∧i= .int .i64 k∧Hid (wr.ownsRow w5.heap.size 157 5 v k (((T k).1.1.map K.pc).flatten))∧Hid (wr.ownsRow w5.heap.size 103 2 u (T k).1.2.length (((T k).1.2.map Ho.cells).flatten))∧Hid (RD wr g d (T k).2)∧Hid (Tch g w5 wr)∧Hid (Tch g (w.alloc (.cells #[.int .u32 oid, .int .u32 ver, .string nm, .int .u8 id, .slice a2 cols.length cap2] 120)) wr)) (fun _ _ i _=>L.length - (intOf i).toNat)
 case atStart=>exact ⟨0,Nat.zero_le _,rfl,Hm (by rw [HT0.out];exact World.ownsRow_nil _ _ _ _),Hm (by rw [HT0.out];exact World.ownsRow_nil _ _ _ _),Hm (by rw [HT0.out];exact HR5.out),Hm (Tch.refl g _),HT5⟩
 case round=>
  obtain ⟨k,hk,rfl,hown,hown2,hr,hT5,hTW⟩:=hrel
  have hB0:=(Blk.new w #[.int .u32 oid, .int .u32 ver, .string nm, .int .u8 id, .slice a2 cols.length cap2] 120).tch hTW.out (by omega)
  have g0:=hB0.cell
  have z1:=hB0.lt
  have HB0:=Hm hB0
  clear hB0
  by_cases hlt:k<L.length
  ·have hlt2:k<cols.length:=by omega
   obtain ⟨bL,oL,rfl,hbL,hxL⟩:=H5.out.at_ (i:=k) (by simpa using hlt)
   have fL:wr.cell? ⟨bL,oL+k,none⟩=some (.bool L[k]):=by
    rw [hT5.out.cell hbL (by have:=HA5.out bL oL rfl;omega)]
    exact boolC_at hlt hxL hbL (Ext.refl _)
   have hbLw:bL<wr.heap.size:=Nat.lt_of_lt_of_le hbL hT5.out.size
   have hkl:=HTlen.out k (by omega)
   have hhl:=HThol.out k
   clear hxL
   cases hq:L[k] with
   |true=>
    rw [hq] at fL
    have HS:=Hm (HTnull.out k hlt hq)
    obtain ⟨P,hP⟩:∃P,P=T k:=⟨_,rfl⟩
    rw [←hP] at HS hown hown2 hr hkl hhl
    clear hq hP
    have HOW:=Hm (hown.out.alloc (.cells #[.int .u8 0, .int .u8 0, .int .i64 0, .complex .f64 0 0, .string ByteArray.empty] 157))
    go_wp2_with (at_builtin;refine wpList_append_own _ rfl _ _ 36 rfl w5.heap.size 157 i0 _ 5 56 Tryz.underlying36 hi hz0 hz1 hz2 rfl (by decide) _ _ _ rfl (HOW.out.alloc _) ⟨_,0,none⟩ 1 1 K.zero.pc rfl rfl ?c1 ?c2 ?c3 ?c4 ?c5 ?_)
    case c1=>exact cells_new' _ #[.int .u8 0, .int .u8 0, .int .i64 0, .complex .f64 0 0, .string ByteArray.empty] _ (by simp)
    case c2=>intro u hu;simp [K.pc,K.zero,V.zero] at hu;rcases hu with rfl|rfl|rfl|rfl|rfl<;>rfl
    case c3=>unfold maxLen;omega
    case c4=>omega
    case c5=>have:=hT5.out.size;simp;omega
    intro v' w6 hown' hgrow _
    have hlt2' :=owns_lt2 hown.out
    have HN1:=Hm hown'
    have HN2:=Hm (owns_grown2 ((hown2.out.alloc (.cells #[.int .u8 0, .int .u8 0, .int .i64 0, .complex .f64 0 0, .string ByteArray.empty] 157)).alloc (.cells #[.int .u8 0, .int .u8 0, .int .i64 0, .complex .f64 0 0, .string ByteArray.empty] 157)) hgrow (fun q hq e=>owns_apart hown2.out hown.out (by decide) q hq e))
    have HNR:=Hm (((hr.out.ext ((Ext.refl wr).alloc (.cells #[.int .u8 0, .int .u8 0, .int .i64 0, .complex .f64 0 0, .string ByteArray.empty] 157))).ext ((Ext.refl _).alloc (.cells #[.int .u8 0, .int .u8 0, .int .i64 0, .complex .f64 0 0, .string ByteArray.empty] 157))).grown hgrow (fun j hj=>by have:=hlt2' j hj;omega))
    have HNT:=Hm (((hT5.out.alloc (.cells #[.int .u8 0, .int .u8 0, .int .i64 0, .complex .f64 0 0, .string ByteArray.empty] 157)).alloc (.cells #[.int .u8 0, .int .u8 0, .int .i64 0, .complex .f64 0 0, .string ByteArray.empty] 157)).grown hgrow (fun j hj=>(hlt2' j hj).1))
    have HNW:=Hm (((hTW.out.alloc (.cells #[.int .u8 0, .int .u8 0, .int .i64 0, .complex .f64 0 0, .string ByteArray.empty] 157)).alloc (.cells #[.int .u8 0, .int .u8 0, .int .i64 0, .complex .f64 0 0, .string ByteArray.empty] 157)).grown hgrow (fun j hj=>by have:=hlt2' j hj;have:=hT5.out.size;simp;omega))
    clear hown' hgrow
    go_wp2
    go_roundw
    case rel=>exact ⟨k+1,by omega,by go_num,Hm (by rw [HS.out,List.map_append,List.flatten_append];simpa using HN1.out),Hm (by rw [HS.out];exact HN2.out),Hm (by rw [HS.out];exact HNR.out),HNT,HNW⟩
    case measure=>simp [intOf];omega
   |false=>
    rw [hq] at fL
    obtain ⟨b2,o2,ha2e,hb2,hx2⟩:=HL2.out.at_ (i:=k) (by simpa using hlt2)
    have hTw:Tch g w wr:=(Tch.of_ext ((Ext.refl w).alloc _)).trans hTW.out
    have p1:wr.cell? ⟨b2,o2+k*3+1,none⟩=some (.int .u8 cols[k].ty):=by
     rw [hTw.cell hb2 (ha2 b2 o2 ha2e (List.ne_nil_of_length_pos (by omega)))]
     exact (Col.at_ hlt2 hx2 hb2 (Ext.refl _)).2.1
    have hb2w:b2<wr.heap.size:=Nat.lt_of_lt_of_le hb2 hTw.size
    have hty:=HTY.out k hlt2
    have HTC:=Hm (HTcell.out k hlt hlt2 hq)
    have HCT:=Hm (fun W h=>ctake_any g d (T k).2 cols[k].ty version W h (by have:=hty.1;omega) (by have:=hty.2;omega))
    obtain ⟨c,m,U,hTC⟩:∃c m U,takeC cols[k].ty version (T k).2=((c,m),U):=⟨_,_,_,rfl⟩
    rw [hTC] at HCT
    have HS:=Hm (HTC.out c m U hTC)
    simp only [K.agg] at HCT
    obtain ⟨P,hP⟩:∃P,P=T k:=⟨_,rfl⟩
    rw [←hP] at HS HCT hown hown2 hr hkl hhl
    obtain ⟨ty,hte⟩:∃ty,ty=cols[k].ty:=⟨_,rfl⟩
    rw [←hte] at p1 HCT
    have HA2:=Hm ha2
    subst ha2e
    clear hq hP hTC hte hx2 hty HTC
    go_upto_region 14 with (go_at_call 85;refine (HCT.out _ (hr.out.ext ((Ext.refl wr).alloc _))).mono ?_;rintro e w6 ⟨rfl,hr6,ht6⟩;have hX:=(Blk.new wr #[.int .u8 0, .int .u8 0, .int .i64 0, .complex .f64 0 0, .string ByteArray.empty] 157).tch ht6 (by omega);have kX:=hX.cell;have fX:=hX.frozen;have zX:=hX.lt;have HR6:=Hm hr6;have HT6:=Hm ht6;have HX6:=Hm hX;have HO6:=Hm (owns_tch (hown.out.alloc (.cells #[.int .u8 0, .int .u8 0, .int .i64 0, .complex .f64 0 0, .string ByteArray.empty] 157)) ht6 (by omega));have HP6:=Hm (owns_tch (hown2.out.alloc (.cells #[.int .u8 0, .int .u8 0, .int .i64 0, .complex .f64 0 0, .string ByteArray.empty] 157)) ht6 (by omega));clear hr6 ht6 hX)
    have hl1:=owns_lt2 hown.out
    have hl2:=owns_lt2 hown2.out
    have h5r:=hT5.out.size
    have hB7:Blk (((((w6.setCell ⟨wr.heap.size,0,none⟩ (.int .u8 c.k)).setCell ⟨wr.heap.size,1,none⟩ (.int .u8 c.v.ty)).setCell ⟨wr.heap.size,2,none⟩ (.int .i64 c.v.n)).setCell ⟨wr.heap.size,3,none⟩ (.complex .f64 c.v.x c.v.y)).setCell ⟨wr.heap.size,4,none⟩ (.string c.v.s)) wr.heap.size #[.int .u8 c.k, .int .u8 c.v.ty, .int .i64 c.v.n, .complex .f64 c.v.x c.v.y, .string c.v.s] 157:=Blk.five HX6.out
    have hO7:(((((w6.setCell ⟨wr.heap.size,0,none⟩ (.int .u8 c.k)).setCell ⟨wr.heap.size,1,none⟩ (.int .u8 c.v.ty)).setCell ⟨wr.heap.size,2,none⟩ (.int .i64 c.v.n)).setCell ⟨wr.heap.size,3,none⟩ (.complex .f64 c.v.x c.v.y)).setCell ⟨wr.heap.size,4,none⟩ (.string c.v.s)).ownsRow w5.heap.size 157 5 u8 k ((P.1.1.map K.pc).flatten):=owns_five HO6.out (fun q hq=>by have:=hl1 q hq;omega)
    have hP7:(((((w6.setCell ⟨wr.heap.size,0,none⟩ (.int .u8 c.k)).setCell ⟨wr.heap.size,1,none⟩ (.int .u8 c.v.ty)).setCell ⟨wr.heap.size,2,none⟩ (.int .i64 c.v.n)).setCell ⟨wr.heap.size,3,none⟩ (.complex .f64 c.v.x c.v.y)).setCell ⟨wr.heap.size,4,none⟩ (.string c.v.s)).ownsRow w5.heap.size 103 2 u9 P.1.2.length ((P.1.2.map Ho.cells).flatten):=owns_five HP6.out (fun q hq=>by have:=hl2 q hq;omega)
    have hR7:RD (((((w6.setCell ⟨wr.heap.size,0,none⟩ (.int .u8 c.k)).setCell ⟨wr.heap.size,1,none⟩ (.int .u8 c.v.ty)).setCell ⟨wr.heap.size,2,none⟩ (.int .i64 c.v.n)).setCell ⟨wr.heap.size,3,none⟩ (.complex .f64 c.v.x c.v.y)).setCell ⟨wr.heap.size,4,none⟩ (.string c.v.s)) g d U:=RD.five HR6.out (by omega)
    have hT7:Tch g w5 (((((w6.setCell ⟨wr.heap.size,0,none⟩ (.int .u8 c.k)).setCell ⟨wr.heap.size,1,none⟩ (.int .u8 c.v.ty)).setCell ⟨wr.heap.size,2,none⟩ (.int .i64 c.v.n)).setCell ⟨wr.heap.size,3,none⟩ (.complex .f64 c.v.x c.v.y)).setCell ⟨wr.heap.size,4,none⟩ (.string c.v.s)):=Tch.five ((hT5.out.alloc _).trans HT6.out) h5r
    have hV7:Tch g _ (((((w6.setCell ⟨wr.heap.size,0,none⟩ (.int .u8 c.k)).setCell ⟨wr.heap.size,1,none⟩ (.int .u8 c.v.ty)).setCell ⟨wr.heap.size,2,none⟩ (.int .i64 c.v.n)).setCell ⟨wr.heap.size,3,none⟩ (.complex .f64 c.v.x c.v.y)).setCell ⟨wr.heap.size,4,none⟩ (.string c.v.s)):=Tch.five ((hTW.out.alloc _).trans HT6.out) (by simp;omega)
    obtain ⟨W7,hW7⟩:∃W7,W7=((((w6.setCell ⟨wr.heap.size,0,none⟩ (.int .u8 c.k)).setCell ⟨wr.heap.size,1,none⟩ (.int .u8 c.v.ty)).setCell ⟨wr.heap.size,2,none⟩ (.int .i64 c.v.n)).setCell ⟨wr.heap.size,3,none⟩ (.complex .f64 c.v.x c.v.y)).setCell ⟨wr.heap.size,4,none⟩ (.string c.v.s):=⟨_,rfl⟩
    rw [←hW7] at hB7 hO7 hP7 hR7 hT7 hV7⊢
    clear hW7 kX fX zX HX6 HO6 HP6 HR6 HT6 g0
    have k7:=hB7.cell
    have z7:=hB7.lt
    have HO7:=Hm hO7
    have HP7:=Hm hP7
    have HR7:=Hm hR7
    have HT7:=Hm hT7
    have HV7:=Hm hV7
    clear hB7 hO7 hP7 hR7 hT7 hV7
    go_upto_region 15 with (at_builtin;refine wpList_append_own _ rfl _ _ 36 rfl w5.heap.size 157 i0 _ 5 56 Tryz.underlying36 hi hz0 hz1 hz2 rfl (by decide) _ _ _ rfl (HO7.out.alloc _) ⟨_,0,none⟩ 1 1 c.pc rfl rfl ?c1 ?c2 ?c3 ?c4 ?c5 ?_)
    case c1=>exact cells_new _ #[.int .u8 c.k, .int .u8 c.v.ty, .int .i64 c.v.n, .complex .f64 c.v.x c.v.y, .string c.v.s] _
    case c2=>intro u hu;simp [K.pc] at hu;rcases hu with rfl|rfl|rfl|rfl|rfl<;>rfl
    case c3=>unfold maxLen;omega
    case c4=>omega
    case c5=>have:=HT7.out.size;simp;omega
    intro v' w8 hown' hgrow _
    have hl7:=owns_lt2 HO7.out
    have HN1:=Hm hown'
    have HN2:=Hm (owns_grown2 (HP7.out.alloc (.cells #[.int .u8 c.k, .int .u8 c.v.ty, .int .i64 c.v.n, .complex .f64 c.v.x c.v.y, .string c.v.s] 157)) hgrow (fun q hq e=>owns_apart HP7.out HO7.out (by decide) q hq e))
    have HNR:=Hm ((HR7.out.ext ((Ext.refl _).alloc (.cells #[.int .u8 c.k, .int .u8 c.v.ty, .int .i64 c.v.n, .complex .f64 c.v.x c.v.y, .string c.v.s] 157))).grown hgrow (fun j hj=>by have:=hl7 j hj;omega))
    have HNT:=Hm ((HT7.out.alloc (.cells #[.int .u8 c.k, .int .u8 c.v.ty, .int .i64 c.v.n, .complex .f64 c.v.x c.v.y, .string c.v.s] 157)).grown hgrow (fun j hj=>(hl7 j hj).1))
    have HNW:=Hm ((HV7.out.alloc (.cells #[.int .u8 c.k, .int .u8 c.v.ty, .int .i64 c.v.n, .complex .f64 c.v.x c.v.y, .string c.v.s] 157)).grown hgrow (fun j hj=>by have:=hl7 j hj;simp;omega))
    clear hown' hgrow hl7 hl1 hl2 k7 z7 HO7 HP7 HR7 HT7 HV7
    by_cases hm:0<m
    ·rw [if_pos hm] at HS
     go_upto_region 17 with (at_builtin;refine wpList_append_own _ rfl _ _ 40 rfl w5.heap.size 103 j0 _ 2 16 Tryz.underlying40 hj hy0 hy1 hy2 rfl (by decide) _ _ _ rfl (HN2.out.alloc _) ⟨_,0,none⟩ 1 1 (Ho.cells ⟨k,m⟩) rfl rfl ?d1 ?d2 ?d3 ?d4 ?d5 ?_)
     case d1=>exact cells_new _ #[.int .i64 (k:Int), .int .i64 (m:Int)] _
     case d2=>intro u hu;simp [Ho.cells] at hu;rcases hu with rfl|rfl<;>rfl
     case d3=>unfold maxLen;omega
     case d4=>omega
     case d5=>have:=HNT.out.size;simp;omega
     intro u' w9 hown' hgrow _
     have hl7:=owns_lt2 HN2.out
     have HM2:=Hm hown'
     have HM1:=Hm (owns_grown2 (HN1.out.alloc (.cells #[.int .i64 (k:Int), .int .i64 (m:Int)] 103)) hgrow (fun q hq e=>owns_apart HN1.out HN2.out (by decide) q hq e))
     have HMR:=Hm ((HNR.out.ext ((Ext.refl _).alloc (.cells #[.int .i64 (k:Int), .int .i64 (m:Int)] 103))).grown hgrow (fun j hj=>by have:=hl7 j hj;omega))
     have HMT:=Hm ((HNT.out.alloc (.cells #[.int .i64 (k:Int), .int .i64 (m:Int)] 103)).grown hgrow (fun j hj=>(hl7 j hj).1))
     have HMW:=Hm ((HNW.out.alloc (.cells #[.int .i64 (k:Int), .int .i64 (m:Int)] 103)).grown hgrow (fun j hj=>by have:=hl7 j hj;simp;omega))
     clear hown' hgrow hl7 HN1 HN2 HNR HNT HNW
     go_wp2
     go_roundw
     case rel=>exact ⟨k+1,by omega,by go_num,Hm (by rw [HS.out,List.map_append,List.flatten_append];simpa using HM1.out),Hm (by rw [HS.out,List.map_append,List.flatten_append,List.length_append];simpa using HM2.out),Hm (by rw [HS.out];exact HMR.out),HMT,HMW⟩
     case measure=>simp [intOf];omega
    ·rw [if_neg hm] at HS
     have hm0:m=0:=by omega
     subst hm0
     go_wp2
     go_roundw
     case rel=>exact ⟨k+1,by omega,by go_num,Hm (by rw [HS.out,List.map_append,List.flatten_append];simpa using HN1.out),Hm (by rw [HS.out];exact HN2.out),Hm (by rw [HS.out];exact HNR.out),HNT,HNW⟩
     case measure=>simp [intOf];omega
  ·have hkk:k=L.length:=by omega
   subst hkk
   have hkl:=HTlen.out _ (Nat.le_refl _)
   have HF:=HTfin
   obtain ⟨P,hP⟩:∃P,P=T L.length:=⟨_,rfl⟩
   rw [←hP] at HF hown hown2 hr hkl
   have hTw:Hid (Tch g w wr):=Hm ((Tch.of_ext ((Ext.refl w).alloc _)).trans hTW.out)
   have hz6:=hT5.out.size
   obtain ⟨a8,c8,rfl⟩:=owns_shape hown.out
   obtain ⟨a9,c9,rfl⟩:=owns_shape hown2.out
   have HER2:=Hm (HER.out P.2)
   clear hP HTlen HThol HTnull HTcell HTfin
   by_cases hpe:P.2.e=0
   ·have hpe2:(P.2.e !=0)=false:=by simpa using hpe
    have HFF:=Hm (HF.out.trans (show finT P=P by unfold finT;rw [if_neg (by simpa using hpe)]))
    clear hpe
    go_wp2_with (go_at_call 83;refine (HER2.out _ hr.out).mono ?_;rintro e w9 ⟨rfl,rfl⟩)
    go_ret2
    rw [HFF.out]
    unfold TkPost
    rw [hkl]
    refine ⟨a8,c8,a9,c9,rfl, ?_, ?_,fun q o e=>by have:=owns_at hown.out q o e;omega,fun q o e=>by have:=owns_at hown2.out q o e;omega,hr.out,hTw.out⟩
    ·have:=Sl.of_owns (base:=w5.heap.size) (e:=157) (xss:=P.1.1.map K.pc) (by rw [List.length_map,hkl];exact hown.out) pc_len
     exact this
    ·have:=Sl.of_owns (base:=w5.heap.size) (e:=103) (xss:=P.1.2.map Ho.cells) (by rw [List.length_map];exact hown2.out) ho_len
     exact this
   ·have hpe2:(P.2.e !=0)=true:=by simpa using hpe
    have HFF:=Hm (HF.out.trans (show finT P=(([], []),P.2) by unfold finT;rw [if_pos hpe]))
    clear hpe
    go_wp2_with (go_at_call 83;refine (HER2.out _ hr.out).mono ?_;rintro e w9 ⟨rfl,rfl⟩)
    go_ret2
    exact TkPost.bad HFF.out hr.out hTw.out
theorem preC_gave {kind ver:Int} {e:Int} (he:e≠0):(preC kind ver ⟨[],e⟩).2=⟨[],e⟩:=by
 unfold preC
 split
 ·exact giveS_gave 18 he
 ·split
  ·exact giveS_gave 11 he
  ·split
   ·unfold firstC
    simp only [byteR_gave he]
    rw [if_pos he]
   ·split
    ·unfold secondC
     simp only [uintR_gave he]
     rw [if_pos he]
    ·exact takeV_gave he
theorem takeC_gave {kind ver:Int} {e:Int} (he:e≠0):(takeC kind ver ⟨[],e⟩).2=⟨[],e⟩:=by
 unfold takeC finC
 split
 ·exact preC_gave he
 ·exact preC_gave he
theorem tkUp_gave {nulls:List Bool} {cols:List Col} {ver:Int} {e:Int} (he:e≠0):∀k,(tkUp nulls cols ver ⟨[],e⟩ k).2=⟨[],e⟩
 |0=>rfl
 |k+1=>by
  have ih:=tkUp_gave (nulls:=nulls) (cols:=cols) (ver:=ver) he k
  unfold tkUp
  split
  ·split
   ·exact ih
   ·simp only;rw [ih];exact takeC_gave he
  ·exact ih
theorem ofBytes_zeros:∀k,ofBytes (List.replicate k 0)=0
 |0=>rfl
 |k+1=>by rw [List.replicate_succ,ofBytes,ofBytes_zeros k];rfl
theorem finT_bad {t:(List K×List Ho)×RS} (h:t.2.e≠0):finT t=(([], []),t.2):=by unfold finT;rw [if_pos h]
theorem take_same (r:Rl) (ver:Int) (st:RS):takeP r ver st=takeT r ver st:=by
 unfold takeP takeT
 by_cases h0:(begR r ver st).e≠0
 ·rw [if_pos h0,if_pos h0]
 rw [if_neg h0,if_neg h0]
 have he:(begR r ver st).e=0:=by simpa using h0
 generalize begR r ver st=S at he
 generalize r.cols.length=n
 by_cases hs:S.l.length<mapSize n
 ·have hm:mapS n S=⟨[],1⟩:=by unfold mapS giveS;rw [if_pos hs,if_pos he]
  have hb:bytesR (mapSize n) S=([],⟨[],1⟩):=by unfold bytesR giveS;rw [if_pos hs,if_pos he]
  rw [hb,if_pos (show (1:Int)≠0 by decide)]
  have h1:(1:Int)≠0:=by decide
  have hmr:(mapR n S).2=⟨[],1⟩:=by
   unfold mapR
   simp only
   rw [hm,byByte_gave h1]
   simp only
   unfold unmapL failS
   rw [ofBytes_zeros,if_neg (by simp)]
  rw [hmr,finT_bad (by rw [tkUp_gave h1];exact h1),tkUp_gave h1]
 ·have hm:mapS n S=S:=by unfold mapS;rw [if_neg hs]
  have hb:bytesR (mapSize n) S=(S.l.take (mapSize n),⟨S.l.drop (mapSize n),S.e⟩):=by unfold bytesR;rw [if_neg hs]
  rw [hb,if_neg (show ¬ ((⟨S.l.drop (mapSize n),S.e⟩:RS).e≠0) by simpa using he)]
  unfold mapR
  rw [hm,byByte_has S _ (by omega)]
open Go.RowKit Go.ChangeShapes Go.WideShapes Go.ChangeAt
section
variable {H : Type} {enc : TypeId × Value → H} {P : Program} {w : World} {base : Nat} {spare : Nat → Bool} {held : Bool}
def Lf (enc:TypeId×Value→H) (P:Program) (w:World) (base:Nat) (spare:Nat→Bool) (held:Bool) (t:TypeId) (c:Value):Prop:=∃n x,DataW.trod enc P w base spare held n t [c]=some x
def Lfs (enc:TypeId×Value→H) (P:Program) (w:World) (base:Nat) (spare:Nat→Bool) (held:Bool):List TypeId→List Value→Prop
 | [], []=>True
 |t::ts,c::cs=>Lf enc P w base spare held t c∧Lfs enc P w base spare held ts cs
 |_,_=>False
theorem Lfs.append:∀(ts us:List TypeId) (cs:List Value),Lfs enc P w base spare held ts (cs.take ts.length)→Lfs enc P w base spare held us (cs.drop ts.length)→Lfs enc P w base spare held (ts++us) cs
 | [],us,cs,_,h=>by simpa using h
 |t::ts,us, [],h,_=>by simp [Lfs] at h
 |t::ts,us,c::cs,h,h' =>by
  simp only [List.length_cons,List.take_succ_cons,Lfs] at h
  exact ⟨h.1,Lfs.append ts us cs h.2 (by simpa using h')⟩
def offs (P:Program):Nat→List Field→List (List TypeId)→Bool
 |_, [], []=>true
 |o,f::fs,l::ls=>f.offset==o&&P.cellsOf f.type==l.length&&offs P (o+l.length) fs ls
 |_,_,_=>false
def flat (P:Program):Nat→TypeId→Option (List TypeId)
 |0,_=>none
 |k+1,t=>
  match P.underlying t with
  |some (.struct fs)=>(fs.toList.mapM fun f=>flat P k f.type).bind fun ls=>if offs P 0 fs.toList ls&&P.cellsOf t==ls.flatten.length then some ls.flatten else none
  |some (.array n e)=>(flat P k e).bind fun l=>if P.cellsOf e==l.length&&P.cellsOf t==n*l.length then some (List.replicate n l).flatten else none
  |_=>some [t]
theorem trod_single {n:Nat} {t:TypeId} {cs:List Value} {x:DataW H×List MemPlace} (h:DataW.trod enc P w base spare held n t cs=some x)
 (h1:∀fs,P.underlying t≠some (.struct fs)) (h2:∀n e,P.underlying t≠some (.array n e)):∃c,cs= [c]:=by
 cases n with
 |zero=>simp [DataW.trod] at h
 |succ n=>
  unfold DataW.trod at h
  split at h
  all_goals first
   |exact ⟨_,rfl⟩
   |(rename_i h3;exact absurd h3 (h1 _))
   |(rename_i h3;exact absurd h3 (h2 _ _))
   |simp at h
theorem offs_open (k:Nat) (ih:∀(t:TypeId) (ts:List TypeId) (n:Nat) (cs:List Value) (x:DataW H×List MemPlace),flat P k t=some ts→DataW.trod enc P w base spare held n t cs=some x→Lfs enc P w base spare held ts cs)
 (n:Nat) (cs:List Value):∀(fs:List Field) (ls:List (List TypeId)) (o:Nat),offs P o fs ls=true→(fs.mapM fun f=>flat P k f.type)=some ls→
 cs.length=o+ls.flatten.length→
 (∀f∈fs,∃y,DataW.trod enc P w base spare held n f.type ((cs.drop f.offset).take (P.cellsOf f.type))=some y)→Lfs enc P w base spare held ls.flatten (cs.drop o):=by
 intro fs
 induction fs with
 |nil=>
  intro ls o ho hm hl _
  cases ls with
  |nil=>simp at hl;rw [List.drop_eq_nil_of_le (by omega)];trivial
  |cons l ls=>simp [offs] at ho
 |cons f fs ih2=>
  intro ls o ho hm hl hf
  cases ls with
  |nil=>simp [offs] at ho
  |cons l ls=>
   simp only [offs,Bool.and_eq_true,beq_iff_eq] at ho
   obtain ⟨⟨ho1,ho2⟩,ho3⟩:=ho
   simp only [List.mapM_cons,Option.bind_eq_bind,Option.bind_eq_some_iff,Option.pure_def,Option.some.injEq,List.cons.injEq] at hm
   obtain ⟨l',h1,ls',h2,rfl,rfl⟩:=hm
   obtain ⟨y,hy⟩:=hf f (by simp)
   rw [ho1,ho2] at hy
   have a1:=ih f.type l' n _ y h1 hy
   simp only [List.flatten_cons,List.length_append] at hl
   have a2:=ih2 ls' (o+l'.length) ho3 h2 (by omega) (fun g hg=>hf g (by simp [hg]))
   rw [List.flatten_cons]
   exact Lfs.append l' ls'.flatten _ a1 (by rw [List.drop_drop];exact a2)
theorem arr_open (l:List TypeId) (e:TypeId) (n:Nat) (he:P.cellsOf e=l.length) (h1:∀cs x,DataW.trod enc P w base spare held n e cs=some x→Lfs enc P w base spare held l cs) (cs:List Value):
 ∀(m i:Nat),cs.length=(i+m)*l.length→(∀j,i≤j→j<i+m→∃y,DataW.trod enc P w base spare held n e ((cs.drop (j*P.cellsOf e)).take (P.cellsOf e))=some y)→
 Lfs enc P w base spare held (List.replicate m l).flatten (cs.drop (i*l.length)):=by
 intro m
 induction m with
 |zero=>intro i hl _;rw [List.drop_eq_nil_of_le (by simp at hl;omega)];simp [Lfs]
 |succ m ih=>
  intro i hl hf
  obtain ⟨y,hy⟩:=hf i (by omega) (by omega)
  rw [he] at hy
  have a1:=h1 _ y hy
  have a2:=ih (i+1) (by rw [hl];congr 1;omega) (fun j h1 h2=>hf j (by omega) (by omega))
  rw [List.replicate_succ,List.flatten_cons]
  refine Lfs.append l _ _ a1 ?_
  rw [List.drop_drop,←Nat.succ_mul]
  exact a2
theorem flat_open (k:Nat):∀(t:TypeId) (ts:List TypeId) (n:Nat) (cs:List Value) (x:DataW H×List MemPlace),flat P k t=some ts→DataW.trod enc P w base spare held n t cs=some x→Lfs enc P w base spare held ts cs:=by
 induction k with
 |zero=>intro t ts n cs x h;simp [flat] at h
 |succ k ih=>
  intro t ts n cs x h hx
  unfold flat at h
  split at h
  ·rename_i fs hu
   obtain ⟨xs,m,_,rfl,hlen,hxl,hf⟩:=DataW.trod_struct hu hx
   simp only [Option.bind_eq_some_iff] at h
   obtain ⟨ls,hm,h⟩:=h
   split at h
   ·rename_i hc
    rw [Bool.and_eq_true,beq_iff_eq] at hc
    cases h
    have:=offs_open k ih m cs fs.toList ls 0 hc.1 hm (by rw [hlen,hc.2,Nat.zero_add]) (fun f hfm=>by
     obtain ⟨i,hi,hif⟩:=List.mem_iff_getElem.1 hfm
     have hi' :i<fs.size:=by simpa using hi
     have g:fs[i]? =some f:=by rw [←hif];simp [hi']
     have:=hf i f g
     rw [List.getElem?_eq_getElem (by omega)] at this
     exact ⟨_,this⟩)
    simpa using this
   ·cases h
  ·rename_i m e hu
   obtain ⟨xs,q,_,rfl,hlen,hxl,hf⟩:=DataW.trod_array hu hx
   simp only [Option.bind_eq_some_iff] at h
   obtain ⟨l,hl,h⟩:=h
   split at h
   ·rename_i hc
    rw [Bool.and_eq_true,beq_iff_eq,beq_iff_eq] at hc
    cases h
    have:=arr_open (enc:=enc) (P:=P) (w:=w) (base:=base) (spare:=spare) (held:=held) l e q hc.1 (fun cs y hy=>ih e l q cs y hl hy) cs m 0 (by rw [hlen,hc.2,Nat.zero_add]) (fun j _ hj=>by
     have:=hf j (by omega)
     rw [List.getElem?_eq_getElem (by omega)] at this
     exact ⟨_,this⟩)
    simpa using this
   ·cases h
  ·rename_i h1 h2
   cases h
   obtain ⟨c,rfl⟩:=trod_single hx (fun fs e=>h1 fs e) (fun n e he=>h2 n e he)
   exact ⟨⟨n,x,hx⟩,trivial⟩
theorem Lf.int {t:TypeId} {c:Value} {k:IntKind} (h:Lf enc P w base spare held t c) (ht:P.underlying t=some (.int k)):∃n,c= .int k n∧(Lit.int k n).wf=true:=by
 obtain ⟨m,x,h⟩:=h
 obtain ⟨n,h1,_,h3⟩:=DataW.trod_int ht h
 cases h1
 exact ⟨n,rfl,h3⟩
theorem Lf.string {t:TypeId} {c:Value} (h:Lf enc P w base spare held t c) (ht:P.underlying t=some .string):∃s:ByteArray,c= .string s∧s.size≤9223372036854775807:=by
 obtain ⟨m,x,h⟩:=h
 obtain ⟨n,h1,_,h3⟩:=DataW.trod_string ht h
 cases h1
 exact ⟨n,rfl,h3⟩
theorem Lf.bool {t:TypeId} {c:Value} (h:Lf enc P w base spare held t c) (ht:P.underlying t=some .bool):∃b:Bool,c= .bool b:=by
 obtain ⟨m,x,h⟩:=h
 obtain ⟨n,h1,_⟩:=DataW.trod_bool ht h
 cases h1
 exact ⟨n,rfl⟩
theorem trod_sl {T E:TypeId} {k n:Nat} {cs:List Value} {x:DataW H×List MemPlace} (ht:P.underlying T=some (.slice E)) (hk:P.cellsOf E=k) (hk0:0<k) (h:DataW.trod enc P w base spare held n T cs=some x):
 ∃v xss,cs= [v]∧Sl w v k xss∧xss.length≤9223372036854775807∧∀xs∈xss,xs.length=k∧∃n x,DataW.trod enc P w base spare held n E xs=some x:=by
 rcases Go.Deep.open_slice ht h with ⟨rfl,_⟩|⟨a,len,cap,m,q,D,Pl,rfl,hb,hl,hm,hmm,_,hx⟩
 ·exact ⟨_, [],rfl,⟨none,0,rfl, .inl rfl⟩,by simp,by simp⟩
 ·have hlm:len≤m:=by rw [hmm];split<;>omega
  have hall:∀i,i<len→∃cs',w.cells? base (a.add (i*k)) k=some cs'∧DataW.trod enc P w base spare held q E cs' =some (D i,Pl i):=fun i hi=>by
   have:=hx i (by omega);rwa [hk] at this
  obtain ⟨C,hC⟩:=Go.Deep.choose_lt hall
  have hcl:cap≤9223372036854775807:=hm
  refine ⟨_,(List.range len).map C,rfl, ?_,by simp;omega, ?_⟩
  ·refine ⟨some a,cap,by simp, ?_⟩
   by_cases h0:len=0
   ·subst h0;exact .inl rfl
   ·right
    have hc0:=(World.cells?_some (hC 0 (by omega)).1)
    have e0:(a.add (0*k)).add 0=a:=by unfold Addr.add;simp
    have hcell:(w.cell? a).isSome=true:=by
     have:=hc0.2.2 0 hk0
     rw [e0] at this
     rw [this,List.getElem?_eq_getElem (by omega)];rfl
    have hsp:a.spot=none:=by
     unfold World.cell? at hcell
     split at hcell
     ·split at hcell
      ·simp at hcell
      ·rename_i hs;simpa using hs
     ·simp at hcell
    have hlt:a.block<w.heap.size:=by
     unfold World.cell? at hcell
     rcases Nat.lt_or_ge a.block w.heap.size with h1|h1
     ·exact h1
     ·rw [Array.getElem?_eq_none h1] at hcell;simp at hcell
    refine ⟨a.block,a.off,by cases a;simp at hsp;subst hsp;rfl,hlt, ?_⟩
    intro i hi j hj
    simp only [List.length_map,List.length_range] at hi
    have h2:=(World.cells?_some (hC i hi).1).2.2 j hj
    rw [Go.Deep.add_add] at h2
    have e:a.add (i*k+j)=⟨a.block,a.off+i*k+j,none⟩:=by
     unfold Addr.add
     split
     ·rename_i hz
      have h3:i*k=0:=by omega
      have h4:j=0:=by omega
      cases a;simp at hsp;subst hsp;simp [h3,h4]
     ·cases a;simp at hsp;subst hsp;simp
    rw [e] at h2
    rw [h2]
    simp [hi]
  ·intro xs hxs
   simp only [List.mem_map,List.mem_range] at hxs
   obtain ⟨i,hi,rfl⟩:=hxs
   exact ⟨(World.cells?_some (hC i hi).1).2.1,_,_,(hC i hi).2⟩
theorem exists_map {α β:Type} {f:α→β} {p:α→Prop} :∀(l:List β),(∀y∈l,∃x,y=f x∧p x)→∃l' :List α,l=l'.map f∧∀x∈l',p x
 | [],_=>⟨[],rfl,by simp⟩
 |y::l,h=>by
  obtain ⟨x,hx,hp⟩:=h y (by simp)
  obtain ⟨l',hl,hl'⟩:=exists_map l (fun z hz=>h z (by simp [hz]))
  exact ⟨x::l',by rw [hx,hl];rfl,by intro z hz;rcases List.mem_cons.1 hz with rfl|hz;exact hp;exact hl' z hz⟩
theorem trodAll_stays {W W' :World} (hl:laidOutB P=true) (hE:Ext W W'):∀(ts:List TypeId) (vs:List Value) (ds:List (DataW H)) (ps:List MemPlace),(∀t∈ts,P.readableRec t=true∧t<P.types.size)→
 DataW.TrodAll enc P W 0 (fun _=>true) true ts vs ds ps→(∀x∈ps,x.block<W.heap.size)→DataW.TrodAll enc P W' 0 (fun b=>decide (b<W.heap.size)) true ts vs ds ps
 | [], [], [],ps,_,h,_=>h
 |t::ts,v::vs,d::ds,ps,hr,h,hlt=>by
  obtain ⟨p,q,h1,h2,rfl⟩:=h
  refine ⟨p,q,Below.trod hl (hr t (by simp)).1 (hr t (by simp)).2 h1 hE (fun x hx=>hlt x (by simp [hx])), ?_,rfl⟩
  exact trodAll_stays hl hE ts vs ds q (fun u hu=>hr u (by simp [hu])) h2 (fun x hx=>hlt x (by simp [hx]))
 | [],_::_,_,_,_,h,_=>by simp [DataW.TrodAll] at h
 | [], [],_::_,_,_,h,_=>by simp [DataW.TrodAll] at h
 |_::_, [],_,_,_,h,_=>by simp [DataW.TrodAll] at h
 |_::_,_::_, [],_,_,h,_=>by simp [DataW.TrodAll] at h
theorem post_law {f:Func} {s:ChangeSpec} {apart:Bool} {W W' :World} {args:Array Value} {ds gs:List (DataW H)} {before:List MemPlace} {tb:TypeId}
 (hl:laidOutB P=true) (hb:P.underlying tb=some .bool) (hrt:f.resultTypes= #[tb]) (hr:f.params.toList.all (fun t=>P.readableRec t&&decide (t<P.types.size))=true) (hv:s.vars= [])
 (hW:DataW.Whole enc P f.params.toList s.vars apart W args.toList ds gs before)
 (h1:(s.fn H (ds++gs)).results= [.lit (.bool true)]) (h2:(s.fn H (ds++gs)).args=ds) (h3:(s.fn H (ds++gs)).vars= []) (hE:Ext W W'):
 s.post enc P f apart true false false W args (.bool true) W' :=by
 have hW' :=hW
 have hlt:=hW.lt
 obtain ⟨p,q,hA,hV,rfl,_,_⟩:=hW
 refine ⟨ds,gs,p++q, [],p, [],hW', ?_, ?_, ?_,Below.frame hE _,fun h=>by cases h⟩
 ·rw [h1,hrt]
  exact trodAll_mk1 (shut_bool hb true)
 ·rw [h2]
  refine trodAll_stays hl hE _ _ _ _ (fun t ht=> ?_) hA (fun x hx=>by simpa using hlt x (by simp [hx]))
  have:=List.all_eq_true.1 hr t ht
  simpa using this
 ·rw [hv,h3];rfl
end
end Go.Proofs.YtodbhliidbclcaaGreat
namespace Go.Proofs.YtodbhliidbclcaaGreat
open Go.RowKit Go.ChangeShapes Go.WideShapes Go.ChangeAt
theorem Tryz.ownG:ownKnob Tryz.prog.godebug=none:=by kernel_rfl
theorem Tryz.laidOutG:laidOutB Tryz.prog=true:=by kernel_rfl
theorem wfG_u8 {n:Int} (h:(Lit.int .u8 n).wf=true):0≤n∧n<256:=by
 simp [Lit.wf,IntKind.min,IntKind.max,IntKind.signed,IntKind.bits] at h;omega
section
variable {H : Type} {enc : TypeId × Value → H} {w : World} {base : Nat} {spare : Nat → Bool} {held : Bool} {r : Reach} {base2 : Nat} {v : Value} {d : DataW H} {ps : List MemPlace}
end
end Go.Proofs.YtodbhliidbclcaaGreat
namespace Go.Proofs.YtodbhliidbclcaaGreat
open Go.RowKit Go.ChangeShapes Go.WideShapes Go.ChangeAt
section
variable {H : Type} {enc : TypeId × Value → H} {w : World} {base : Nat} {spare : Nat → Bool} {held : Bool} {r : Reach} {base2 : Nat} {v : Value} {d : DataW H} {ps : List MemPlace}
end
end Go.Proofs.YtodbhliidbclcaaGreat
namespace Go.Proofs.YtodbhliidbclcaaGreat
open Go.RowKit Go.ChangeShapes Go.WideShapes Go.ChangeAt
theorem Tryz.flatColG:flat Tryz.prog 4 128=some [9,5,4]:=by kernel_rfl
theorem Tryz.flatRelG:flat Tryz.prog 4 77=some [32,32,9,5,75]:=by kernel_rfl
theorem Tryz.cellsColG:Tryz.prog.cellsOf 128=3:=by kernel_rfl
end Go.Proofs.YtodbhliidbclcaaGreat
