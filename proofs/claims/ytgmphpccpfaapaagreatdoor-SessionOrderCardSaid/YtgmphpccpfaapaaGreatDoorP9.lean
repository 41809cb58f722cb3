/-
Which of two refs is ahead, the program's.
-/
import Derived.Deep.RegionHeld
import Derived.Test.YtgmphpccpfaapaaGreatDoorP4
import Derived.Test.YtgmphpccpfaapaaGreatDoorP7
set_option maxRecDepth 100000
set_option maxHeartbeats 16000000
namespace Go.Proofs.YtgmphpccpfaapaaGreatDoor
open Go.RowKit
theorem isnan_any (x:Int) (w:World):Calls Tryz.prog 145 #[.int .u32 x] w fun e w' =>e= .returned (.bool false)∧w=w' :=by
 go_enter Tryz.func145,Tryz.ntmps145
 go_wp2
 go_ret
 exact ⟨by simp,rfl⟩
theorem cmpu_any (a b:Int) (w:World):Calls Tryz.prog 122 #[.int .u32 a, .int .u32 b] w fun e w' =>e= .returned (.int .i64 (cmpI a b))∧w=w' :=by
 by_cases h1:a<b
 ·have HR:=Hm (show cmpI a b= -1 by unfold cmpI;rw [if_pos h1])
  go_enter Tryz.func122,Tryz.ntmps122
  go_wp2_with (go_at_call 145;refine (isnan_any _ _).mono ?_;rintro e w1 ⟨rfl,rfl⟩)
  go_ret
  exact ⟨ret_int HR.out.symm,rfl⟩
 ·by_cases h2:b<a
  ·have HR:=Hm (show cmpI a b=1 by unfold cmpI;rw [if_neg h1,if_pos h2])
   go_enter Tryz.func122,Tryz.ntmps122
   go_wp2_with (go_at_call 145;refine (isnan_any _ _).mono ?_;rintro e w1 ⟨rfl,rfl⟩)
   go_ret
   exact ⟨ret_int HR.out.symm,rfl⟩
  ·have HR:=Hm (show cmpI a b=0 by unfold cmpI;rw [if_neg h1,if_neg h2])
   go_enter Tryz.func122,Tryz.ntmps122
   go_wp2_with (go_at_call 145;refine (isnan_any _ _).mono ?_;rintro e w1 ⟨rfl,rfl⟩)
   go_ret
   exact ⟨ret_int HR.out.symm,rfl⟩
def orI (a b:Int):Int:=if a≠0 then a else b
theorem cmpor_any (a b:Int) (B:Nat) (w:World) (h0:w.cell? ⟨B,0,none⟩=some (.int .i64 a)) (h1:w.cell? ⟨B,1,none⟩=some (.int .i64 b)) (_hB:B<w.heap.size):
 Calls Tryz.prog 121 #[.slice (some ⟨B,0,none⟩) 2 2] w fun e w' =>e= .returned (.int .i64 (orI a b))∧Ext w w' :=by
 by_cases ha:a=0
 ·subst ha
  by_cases hb:b=0
  ·subst hb
   go_enter Tryz.func121,Tryz.ntmps121
   go_wp2
   go_loop [8] (fun i=>i= .int .i64 0∨i= .int .i64 1∨i= .int .i64 2) (fun i=>2 - (intOf i).toNat)
   case atStart=>exact .inl rfl
   case round=>
    rcases hrel with rfl|rfl|rfl
    ·go_wp2
     go_round
     case rel=>exact .inr (.inl rfl)
     case measure=>simp [intOf]
    ·go_wp2
     go_round
     case rel=>exact .inr (.inr rfl)
     case measure=>simp [intOf]
    ·go_wp2
     go_ret
     exact ⟨ret_int (by unfold orI;simp),by exact eX⟩
  ·have hb' :(b !=0)=true:=by simpa using hb
   have HR:=Hm (show orI 0 b=b by unfold orI;simp)
   clear hb
   go_enter Tryz.func121,Tryz.ntmps121
   go_wp2
   go_loop [8] (fun i=>i= .int .i64 0∨i= .int .i64 1) (fun i=>2 - (intOf i).toNat)
   case atStart=>exact .inl rfl
   case round=>
    rcases hrel with rfl|rfl
    ·go_wp2
     go_round
     case rel=>exact .inr rfl
     case measure=>simp [intOf]
    ·go_wp2
     go_ret
     exact ⟨ret_int HR.out.symm,by exact eX⟩
 ·have ha' :(a !=0)=true:=by simpa using ha
  have HR:=Hm (show orI a b=a by unfold orI;rw [if_pos ha])
  clear ha
  go_enter Tryz.func121,Tryz.ntmps121
  go_wp2
  go_loop [8] (fun i=>i= .int .i64 0) (fun _=>0)
  case atStart=>rfl
  case round=>
   subst hrel
   go_wp2
   go_ret
   exact ⟨ret_int HR.out.symm,by exact eX⟩
theorem compare_any (o1 v1 o2 v2:Int) (w:World):
 Calls Tryz.prog 92 #[.agg #[.int .u32 o1, .int .u32 v1], .agg #[.int .u32 o2, .int .u32 v2]] w fun e w' =>e= .returned (.int .i64 (cmpR o1 v1 o2 v2))∧Ext w w' :=by
 have HC:=Hm (fun w=>cmpu_any o1 o2 w)
 have HD:=Hm (fun w=>cmpu_any v1 v2 w)
 have HR:=Hm (show orI (cmpI o1 o2) (cmpI v1 v2)=cmpR o1 v1 o2 v2 from rfl)
 obtain ⟨A,hA⟩:∃A,A=cmpI o1 o2:=⟨_,rfl⟩
 obtain ⟨B,hB⟩:∃B,B=cmpI v1 v2:=⟨_,rfl⟩
 rw [←hA] at HC HR
 rw [←hB] at HD HR
 clear hA hB
 go_enter Tryz.func92,Tryz.ntmps92
 go_wp2
 go_region_held3 (fun w' =>Ext ((w.alloc (.cells #[.int .u32 o1, .int .u32 v1] 69)).alloc (.cells #[.int .u32 o2, .int .u32 v2] 69)) w'∧(∀b o,b<((w.alloc (.cells #[.int .u32 o1, .int .u32 v1] 69)).alloc (.cells #[.int .u32 o2, .int .u32 v2] 69)).heap.size→w'.cell? ⟨b,o,none⟩=((w.alloc (.cells #[.int .u32 o1, .int .u32 v1] 69)).alloc (.cells #[.int .u32 o2, .int .u32 v2] 69)).cell? ⟨b,o,none⟩)∧(∀b o,b<((w.alloc (.cells #[.int .u32 o1, .int .u32 v1] 69)).alloc (.cells #[.int .u32 o2, .int .u32 v2] 69)).heap.size→w'.frozen? ⟨b,o,none⟩=((w.alloc (.cells #[.int .u32 o1, .int .u32 v1] 69)).alloc (.cells #[.int .u32 o2, .int .u32 v2] 69)).frozen? ⟨b,o,none⟩)) ((exact held_of (by exact eX))) (first
  |(go_at_call_of 122 (Value.int .u32 o1);refine (HC.out _).mono ?_;rintro e w1 ⟨rfl,rfl⟩)
  |(go_at_call_of 122 (Value.int .u32 v1);refine (HD.out _).mono ?_;rintro e w1 ⟨rfl,rfl⟩)
  |(go_at_call 121;refine (cmpor_any A B _ _ (by go_simp) (by go_simp) (by simp)).mono ?_;rintro e w1 ⟨rfl,hb1⟩))
 go_wp2
 go_ret
 exact ⟨ret_int HR.out,by exact eX⟩
theorem find1_any (p:RR) (o v:Int) (w:World):
 Calls Tryz.prog 91 #[p.agg, .agg #[.int .u32 o, .int .u32 v]] w fun e w' =>e= .returned (.int .i64 (cmpR p.r.oid p.r.ver o v))∧Ext w w' :=by
 obtain ⟨⟨oid,ver,nm,id,cols⟩,a,c⟩:=p
 unfold RR.agg
 simp only
 have HC:=Hm (fun w=>compare_any oid ver o v w)
 obtain ⟨A,hA⟩:∃A,A=cmpR oid ver o v:=⟨_,rfl⟩
 rw [←hA] at HC⊢
 clear hA
 go_enter Tryz.func91,Tryz.ntmps91
 go_wp2_with (go_at_call 92;refine (HC.out _).mono ?_;rintro e w1 ⟨rfl,hb1⟩)
 go_ret
 exact ⟨rfl,by exact eX⟩
theorem take_any_no {cols:List Col} {c:Col} {k:Nat} (h:∀i (hi:i<cols.length),i<k→cols[i].nm≠c.nm):(cols.take k).any (fun o=>decide (o.nm=c.nm))=false:=by
 refine any_none fun i hi=> ?_
 rw [List.length_take] at hi
 rw [List.getElem_take]
 exact decide_eq_false (h i (by omega) (by omega))
theorem take_any_yes {cols:List Col} {c:Col} {k j:Nat} (hj:j<cols.length) (hk:j<k) (h:cols[j].nm=c.nm):(cols.take k).any (fun o=>decide (o.nm=c.nm))=true:=by
 have hl:j<(cols.take k).length:=by rw [List.length_take];omega
 refine any_at (k:=j) hl ?_
 rw [List.getElem_take]
 exact decide_eq_true h
theorem take_key {cols:List Col} {k:Nat} (hk:k<cols.length):(cols.take (k+1)).any Col.key=((cols.take k).any Col.key||cols[k].key):=by
 rw [List.take_succ_eq_append_getElem hk,List.any_append];simp
theorem colE_un {c:Col} {l:List Col} (h:namedB c.nm=false):colE c l=3:=by unfold colE;rw [if_pos h]
theorem colE_ex {c:Col} {l:List Col} (h:namedB c.nm=true) (h2:l.any (fun o=>decide (o.nm=c.nm))=true):colE c l=9:=by unfold colE;rw [if_neg (by rw [h];simp),if_pos h2]
theorem colE_ty {c:Col} {l:List Col} (h:namedB c.nm=true) (h2:l.any (fun o=>decide (o.nm=c.nm))=false) (h3:c.ty<1∨6<c.ty):colE c l=11:=by unfold colE;rw [if_neg (by rw [h];simp),if_neg (by rw [h2];simp),if_pos h3]
theorem colE_ok {c:Col} {l:List Col} (h:namedB c.nm=true) (h2:l.any (fun o=>decide (o.nm=c.nm))=false) (h3: ¬ (c.ty<1∨6<c.ty)):colE c l=0:=by unfold colE;rw [if_neg (by rw [h];simp),if_neg (by rw [h2];simp),if_neg h3]
theorem rright8_big (oid ver:Int) (nm:ByteArray) (id:Int) (cols:List Col) (a:Option Addr) (cap:Nat) (w:World) (hl:Sl w (.slice a cols.length cap) 3 (cols.map Col.cells)) (hlen:cols.length≤9223372036854775807)
 (hnm:nm.size≤9223372036854775807) (hcs:∀c∈cols,c.nm.size≤9223372036854775807):
 Calls Tryz.prog 60 #[.agg #[.int .u32 oid, .int .u32 ver, .string nm, .int .u8 id, .slice a cols.length cap]] w fun e w' =>e= .returned (.int .i64 (⟨oid,ver,nm,id,cols⟩:Rl).right)∧Ext w w' :=by
 have HN:=Hm (fun w=>rnamed_any nm w hnm)
 have HL:=Hm hl
 have HCS:=Hm hcs
 clear hl hcs
 by_cases h1:oid=0
 ·have HR:=Hm (show (⟨oid,ver,nm,id,cols⟩:Rl).right=4 by unfold Rl.right;rw [if_pos (.inl h1)])
  have e1:(oid==0)=true:=by simpa using h1
  clear h1
  go_enter Tryz.func60,Tryz.ntmps60
  go_wp2
  go_ret
  exact ⟨ret_int HR.out.symm,by exact eX⟩
 have e1:(oid==0)=false:=by simpa using h1
 by_cases h2:ver=0
 ·have HR:=Hm (show (⟨oid,ver,nm,id,cols⟩:Rl).right=4 by unfold Rl.right;rw [if_pos (.inr h2)])
  have e2:(ver==0)=true:=by simpa using h2
  clear h2 h1
  go_enter Tryz.func60,Tryz.ntmps60
  go_wp2
  go_ret
  exact ⟨ret_int HR.out.symm,by exact eX⟩
 have e2:(ver==0)=false:=by simpa using h2
 cases h3:namedB nm with
 |false=>
  have HR:=Hm (show (⟨oid,ver,nm,id,cols⟩:Rl).right=3 by unfold Rl.right;rw [if_neg (by simp only;omega),if_pos h3])
  rw [h3] at HN
  clear h3 h2 h1
  go_enter Tryz.func60,Tryz.ntmps60
  go_wp2_with (go_at_call 85;refine (HN.out _).mono ?_;rintro e w1 ⟨rfl,rfl⟩)
  go_ret
  exact ⟨ret_int HR.out.symm,by exact eX⟩
 |true=>
 by_cases h4:2<id
 ·have HR:=Hm (show (⟨oid,ver,nm,id,cols⟩:Rl).right=7 by unfold Rl.right;rw [if_neg (by simp only;omega),if_neg (by simp only [h3];simp),if_pos h4])
  rw [h3] at HN
  clear h3 h2 h1
  go_enter Tryz.func60,Tryz.ntmps60
  go_wp2_with (go_at_call 85;refine (HN.out _).mono ?_;rintro e w1 ⟨rfl,rfl⟩)
  go_ret
  exact ⟨ret_int HR.out.symm,by exact eX⟩
 by_cases h5:cols.length<1
 ·have HR:=Hm (show (⟨oid,ver,nm,id,cols⟩:Rl).right=17 by unfold Rl.right;rw [if_neg (by simp only;omega),if_neg (by simp only [h3];simp),if_neg (by simp only;omega),if_pos (.inl h5)])
  have h4' :id≤2:=by omega
  have hz:(((cols.length:Nat):Int)==0)=true:=by simp;exact List.length_eq_zero_iff.1 (by omega)
  rw [h3] at HN
  clear h3 h2 h1
  go_enter Tryz.func60,Tryz.ntmps60
  go_wp2_with (go_at_call 85;refine (HN.out _).mono ?_;rintro e w1 ⟨rfl,rfl⟩)
  go_ret
  exact ⟨ret_int HR.out.symm,by exact eX⟩
 have hz:(((cols.length:Nat):Int)==0)=false:=by
  simp;rintro rfl;simp at h5
 by_cases h6:16<cols.length
 ·have HR:=Hm (show (⟨oid,ver,nm,id,cols⟩:Rl).right=17 by unfold Rl.right;rw [if_neg (by simp only;omega),if_neg (by simp only [h3];simp),if_neg (by simp only;omega),if_pos (.inr h6)])
  have h4' :id≤2:=by omega
  rw [h3] at HN
  clear h3 h2 h1
  go_enter Tryz.func60,Tryz.ntmps60
  go_wp2_with (go_at_call 85;refine (HN.out _).mono ?_;rintro e w1 ⟨rfl,rfl⟩)
  go_ret
  exact ⟨ret_int HR.out.symm,by exact eX⟩
 have HR:=Hm (Rl.right_cols (r:=(⟨oid,ver,nm,id,cols⟩:Rl)) h1 h2 h3 (by simp only;omega) (by simp only;omega) (by simp only;omega))
 simp only at HR
 rw [h3] at HN
 have h4' :id≤2:=by omega
 have h6' :cols.length≤16:=by omega
 clear h3 h2 h1 h4 h5 h6
 go_enter Tryz.func60,Tryz.ntmps60
 go_wp2_with (go_at_call 85;refine (HN.out _).mono ?_;rintro e w1 ⟨rfl,rfl⟩)
 go_loopw [3,4] (fun q i wr=>∃k:Nat,k≤cols.length∧i= .int .i64 k∧(∃B:Bool,q= .bool B∧Hid ((cols.take k).any Col.key=B))∧Hid (∀j,j<k→colAt cols j=0)∧Hid (Ext (w.alloc (.cells #[.int .u32 oid, .int .u32 ver, .string nm, .int .u8 id, .slice a cols.length cap] 44)) wr)) (fun _ i _=>cols.length - (intOf i).toNat)
 case atStart=>exact ⟨0,Nat.zero_le _,rfl,⟨false,rfl,by show List.any _ _=_;simp⟩,fun j h=>by omega,Ext.refl _⟩
 case round=>
  obtain ⟨k,hk,rfl,⟨B,rfl,hKB⟩,hrel,hE⟩:=hrel
  have HRL:=hrel
  have hBx:=(Blk.new w #[.int .u32 oid, .int .u32 ver, .string nm, .int .u8 id, .slice a cols.length cap] 44).ext hE.out
  have g0:=hBx.cell
  have z0:=hBx.lt
  have HBx:=Hm hBx
  clear hBx
  by_cases hlt:k<cols.length
  ·obtain ⟨b,o,rfl,hb,hx⟩:=HL.out.at_ (i:=k) (by simpa using hlt)
   have hEw:Hid (Ext w wr):=Hm (((Ext.refl w).alloc _).trans hE.out)
   obtain ⟨f0,f1,f2⟩:=Col.at_ hlt hx hb hEw.out
   have hbw:b<wr.heap.size:=Nat.lt_of_lt_of_le hb hEw.out.size
   have hAt:=colAt_lt hlt
   have HNC:=Hm (fun w=>rnamed_any cols[k].nm w (HCS.out _ (List.getElem_mem hlt)))
   have HTK:=Hm (take_key hlt)
   obtain ⟨c,hc⟩:∃c,c=cols[k]:=⟨_,rfl⟩
   rw [←hc] at f0 f1 f2 hAt HNC HTK
   have HAt:=Hm hAt
   have HC:=Hm hc
   clear hx hAt hc
   cases hnc:namedB c.nm with
   |false=>
    rw [hnc] at HNC
    have HR2:=Hm (show (⟨oid,ver,nm,id,cols⟩:Rl).right=3 by rw [HR.out,firstE_at hrel.out hlt (by rw [HAt.out,colE_un hnc];decide),HAt.out,colE_un hnc];simp)
    clear hnc
    go_wp2_with (go_at_call 85;refine (HNC.out _).mono ?_;rintro e w1 ⟨rfl,rfl⟩)
    go_ret
    exact ⟨ret_int HR2.out.symm,hEw.out.trans (by exact eX)⟩
   |true=>
    rw [hnc] at HNC
    have HNM:=Hm hnc
    clear hnc
    go_wp2_with (go_at_call 85;refine (HNC.out _).mono ?_;rintro e w1 ⟨rfl,rfl⟩)
    obtain ⟨wo,rfl⟩:∃wo:World,wo=wr:=⟨_,rfl⟩
    go_loopw [6] (fun m wr=>∃j:Nat,j≤k∧m= .int .i64 j∧Hid (∀i (hi:i<cols.length),i<j→cols[i].nm≠c.nm)∧Hid (Ext (wo.alloc (.cells #[.string c.nm, .int .u8 c.ty, .bool c.key] 103)) wr)) (fun m _=>k - (intOf m).toNat)
    case atStart=>exact ⟨0,Nat.zero_le _,rfl,fun i _ h=>by omega,Ext.refl _⟩
    case round=>
     obtain ⟨j,hj,rfl,hno,hEi⟩:=hrel
     have hEri:Hid (Ext wo wr):=Hm (((Ext.refl wo).alloc _).trans hEi.out)
     have hBi:=HBx.out.ext hEri.out
     have gi:=hBi.cell
     have zi:=hBi.lt
     have hCi:=(Blk.new wo #[.string c.nm, .int .u8 c.ty, .bool c.key] 103).ext hEi.out
     have ci:=hCi.cell
     have yi:=hCi.lt
     clear hBi hCi
     by_cases hjk:j<k
     ·have hjl:j<cols.length:=by omega
      obtain ⟨b2,o2,e2,hb2,hx2⟩:=HL.out.at_ (i:=j) (by simpa using hjl)
      obtain ⟨rfl,rfl⟩:b2=b∧o2=o:=by simp at e2;exact ⟨e2.1.symm,e2.2.symm⟩
      obtain ⟨p0,p1,p2⟩:=Col.at_ hjl hx2 hb2 (hEw.out.trans hEri.out)
      have hbi:b2<wr.heap.size:=Nat.lt_of_lt_of_le hbw hEri.out.size
      clear e2 hx2
      by_cases hnn:cols[j].nm=c.nm
      ·have hEq:(cols[j].nm.toList==c.nm.toList)=true:=by rw [str_beq];exact decide_eq_true hnn
       have hAl:=take_any_yes hjl hjk hnn
       have HR2:=Hm (show (⟨oid,ver,nm,id,cols⟩:Rl).right=9 by rw [HR.out,firstE_at HRL.out hlt (by rw [HAt.out,colE_ex HNM.out hAl];decide),HAt.out,colE_ex HNM.out hAl];simp)
       clear hnn hAl
       go_wp2
       go_region_held3 (fun w' =>Ext (wr) w'∧(∀b o,b<(wr).heap.size→w'.cell? ⟨b,o,none⟩=(wr).cell? ⟨b,o,none⟩)∧(∀b o,b<(wr).heap.size→w'.frozen? ⟨b,o,none⟩=(wr).frozen? ⟨b,o,none⟩)) ((exact held_of (by exact eX))) (fail)
       go_wp2
       go_ret
       exact ⟨ret_int HR2.out.symm,(hEw.out.trans hEri.out).trans (by exact eX)⟩
      ·have hEq:(cols[j].nm.toList==c.nm.toList)=false:=by rw [str_beq];exact decide_eq_false hnn
       have HNN:=Hm hnn
       clear hnn
       go_wp2
       go_region_held3 (fun w' =>Ext (wr) w'∧(∀b o,b<(wr).heap.size→w'.cell? ⟨b,o,none⟩=(wr).cell? ⟨b,o,none⟩)∧(∀b o,b<(wr).heap.size→w'.frozen? ⟨b,o,none⟩=(wr).frozen? ⟨b,o,none⟩)) ((exact held_of (by exact eX))) (fail)
       go_wp2
       go_roundw
       case rel=>exact ⟨j+1,by omega,by go_num,fun i hi hij=>by
        by_cases e:i=j
        ·subst e;exact HNN.out
        ·exact hno.out i hi (by omega),Hm (hEi.out.trans (by exact eX))⟩
       case measure=>simp [intOf];omega
     ·obtain rfl:j=k:=by omega
      have HNO:=Hm (take_any_no hno.out)
      by_cases ht:c.ty<1∨6<c.ty
      ·have HR2:=Hm (show (⟨oid,ver,nm,id,cols⟩:Rl).right=11 by rw [HR.out,firstE_at HRL.out hlt (by rw [HAt.out,colE_ty HNM.out HNO.out ht];decide),HAt.out,colE_ty HNM.out HNO.out ht];simp)
       rcases ht with ht|ht
       all_goals
        (try have ht1:1≤c.ty:=by omega)
        go_wp2
        go_ret
        exact ⟨ret_int HR2.out.symm,(hEw.out.trans hEri.out).trans (by exact eX)⟩
      ·have ht1:1≤c.ty:=by omega
       have ht2:c.ty≤6:=by omega
       have HA0:=Hm (HAt.out.trans (colE_ok HNM.out HNO.out ht))
       clear ht
       cases B
       all_goals
        go_wp2
        go_roundw
        case rel=>exact ⟨j+1,by omega,by go_num,⟨_,rfl,by show List.any _ _=_;rw [HTK.out,hKB.out];simp⟩,fun i hi=>by
         by_cases e:i=j
         ·subst e;exact HA0.out
         ·exact HRL.out i (by omega),Hm ((hE.out.trans hEri.out).trans (by exact eX))⟩
        case measure=>simp [intOf];omega
  ·have hkk:k=cols.length:=by omega
   have hEw:Hid (Ext w wr):=Hm (((Ext.refl w).alloc _).trans hE.out)
   have HR2:=Hm (show (⟨oid,ver,nm,id,cols⟩:Rl).right=if id=1∧cols.any Col.key=false then 13 else 0 by rw [HR.out,firstE_zero (fun i hi=>hrel.out i (by omega)),if_neg (by simp)])
   subst hkk
   rw [List.take_length] at hKB
   rw [hKB.out] at HR2
   clear hrel HR
   by_cases h7:id=1
   ·subst h7
    cases B
    all_goals
     go_wp2
     go_ret
     exact ⟨ret_int (by rw [HR2.out];simp),hEw.out⟩
   ·have e7:(id==1)=false:=by simpa using h7
    have HR3:=Hm (HR2.out.trans (if_neg (fun h=>h7 h.1)))
    clear h7 HR2
    go_wp2
    go_ret
    exact ⟨ret_int HR3.out.symm,hEw.out⟩
theorem rright8_any (oid ver:Int) (nm:ByteArray) (id:Int) (cols:List Col) (a:Option Addr) (cap:Nat) (w:World) (hl:Sl w (.slice a cols.length cap) 3 (cols.map Col.cells)) (hlen:cols.length≤1000)
 (hnm:nm.size≤9223372036854775807) (hcs:∀c∈cols,c.nm.size≤9223372036854775807):
 Calls Tryz.prog 60 #[.agg #[.int .u32 oid, .int .u32 ver, .string nm, .int .u8 id, .slice a cols.length cap]] w fun e w' =>e= .returned (.int .i64 (⟨oid,ver,nm,id,cols⟩:Rl).right)∧Ext w w' :=
 rright8_big oid ver nm id cols a cap w hl (by omega) hnm hcs
theorem wpHd_takeD {P:Program} {ops:Array Oper} {Q:Exit→Act→World→Prop} {md:Region.Mode} {S:World→Prop} {n i:Nat} {oi:Oper} {d:Option Tmp} {v:Value} {f:Nat} {listed:Array Bool} {a:Act} {w:World} (hi:ops[i]? =some oi) (hd:oi.dst=d)
 (hB:headB md ops n listed=true) (hf:Region.free md ops listed i=true) (hr:((Region.ready md ops listed).contains i&&decide (i<n))=true)
 (hQ:∀c a w,Q (.panic c) (a.put d v) w→Q (.panic c) a w) (hy:YieldsIf P ops S oi v a) (hS:S w)
 (h:wpHd P md ops Q S n f (listed.setIfInBounds i true) (a.put d v) w):wpHd P md ops Q S n (f+1) listed a w:=by
 subst hd
 exact wpHd_take hi hB hf hr hQ hy hS h
theorem rahead_any (o1 v1 o2 v2:Int) (w:World):
 Calls Tryz.prog 62 #[.agg #[.int .u32 o1, .int .u32 v1], .agg #[.int .u32 o2, .int .u32 v2]] w fun e w' =>e= .returned (.bool (aheadB o1 v1 o2 v2))∧Ext w w' :=by
 by_cases h1:o1<o2
 ·have HR:=Hm (show aheadB o1 v1 o2 v2=true from decide_eq_true (.inl h1))
  go_enter Tryz.func62,Tryz.ntmps62
  go_wp2
  go_ret
  exact ⟨ret_bool HR.out.symm,by exact eX⟩
 by_cases h2:o1=o2
 ·subst h2
  by_cases h3:v1<v2
  ·have HR:=Hm (show aheadB o1 v1 o1 v2=true from decide_eq_true (.inr ⟨rfl,h3⟩))
   go_enter Tryz.func62,Tryz.ntmps62
   go_wp2
   go_ret
   exact ⟨ret_bool HR.out.symm,by exact eX⟩
  ·have HR:=Hm (show aheadB o1 v1 o1 v2=false from decide_eq_false (by unfold aheadP;omega))
   go_enter Tryz.func62,Tryz.ntmps62
   go_wp2
   go_ret
   exact ⟨ret_bool HR.out.symm,by exact eX⟩
 ·have HR:=Hm (show aheadB o1 v1 o2 v2=false from decide_eq_false (by unfold aheadP;omega))
  have h2' :(o1==o2)=false:=by simpa using h2
  clear h2
  go_enter Tryz.func62,Tryz.ntmps62
  go_wp2
  go_ret
  exact ⟨ret_bool HR.out.symm,by exact eX⟩
theorem rget_any (ps:List RR) (a:Option Addr) (cap:Nat) (o v:Int) (w:World) (hl:RL w (.slice a ps.length cap) ps) (hlen:ps.length≤1000):
 Calls Tryz.prog 55 #[.slice a ps.length cap, .agg #[.int .u32 o, .int .u32 v]] w fun e w' =>e= .returned (.tuple #[((getP o v ps).getD RR.zero).agg, .bool (getP o v ps).isSome])∧Ext w w' :=by
 have HL:=Hm hl.row
 clear hl
 go_enter Tryz.func55,Tryz.ntmps55
 go_wp2
 go_loopw [6] (fun i wr=>∃k:Nat,k≤ps.length∧i= .int .i64 k∧Hid (∀j (hj:j<ps.length),j<k→¬ (ps[j].r.oid=o∧ps[j].r.ver=v))∧Hid (Ext ((w.alloc (.cells #[.int .u32 o, .int .u32 v] 41)).alloc (.cells #[.int .u32 0, .int .u32 0, .string ⟨#[]⟩, .int .u8 0, .slice none 0 0] 44)) wr)) (fun i _=>ps.length - (intOf i).toNat)
 case atStart=>exact ⟨0,Nat.zero_le _,rfl,Hm (fun j hj h=>by omega),Hm (Ext.refl _)⟩
 case round=>
  obtain ⟨k,hk,rfl,hrel,hE⟩:=hrel
  have hEw:Ext w wr:=(((Ext.refl w).alloc _).alloc _).trans hE.out
  have HB0:=Hm (((Blk.new w #[.int .u32 o, .int .u32 v] 41).alloc (.cells #[.int .u32 0, .int .u32 0, .string ⟨#[]⟩, .int .u8 0, .slice none 0 0] 44)).ext hE.out)
  have HB1:=Hm ((Blk.new' (w:=w.alloc (.cells #[.int .u32 o, .int .u32 v] 41)) (b:=w.heap.size+1) #[.int .u32 0, .int .u32 0, .string ⟨#[]⟩, .int .u8 0, .slice none 0 0] 44 (by simp)).ext hE.out)
  have g0:=HB0.out.cell
  have z0:=HB0.out.lt
  have g1:=HB1.out.cell
  have g1f:=HB1.out.frozen
  have z1:=HB1.out.lt
  by_cases hlt:k<ps.length
  ·obtain ⟨b,q,rfl,hb,hx⟩:=HL.out.at_ (i:=k) (by simpa using hlt)
   obtain ⟨f0,f1,f2,f3,f4⟩:=RR.at_ hlt hx hb hEw
   have hbw:b<wr.heap.size:=Nat.lt_of_lt_of_le hb hEw.size
   have HGP:=Hm (fun h=>getP_at (o:=o) (v:=v) hlt h hrel.out)
   obtain ⟨p,hp⟩:∃p,p=ps[k]:=⟨_,rfl⟩
   rw [←hp] at f0 f1 f2 f3 f4 HGP
   have HP:=Hm hp
   clear hx hp
   have HEW:=Hm hEw
   clear hEw
   by_cases h1:p.r.oid=o∧p.r.ver=v
   ·have HG:=Hm (HGP.out h1)
    obtain ⟨e1,e2⟩:=h1
    rw [e1] at f0
    rw [e2] at f1
    clear HGP
    go_wp2
    go_region_held3 (fun w' =>Ext (wr) w'∧(∀b o,b<(wr).heap.size→w'.cell? ⟨b,o,none⟩=(wr).cell? ⟨b,o,none⟩)∧(∀b o,b<(wr).heap.size→w'.frozen? ⟨b,o,none⟩=(wr).frozen? ⟨b,o,none⟩)) ((exact held_of (by exact eX))) (fail)
    go_wp2
    simp [bodyPost,results,Tryz.results55,go_sem, *]
    have hEw:=HEW.out
    exact ⟨⟨by rw [HG.out];show _=RR.agg p;unfold RR.agg;rw [e1,e2],by rw [HG.out];rfl⟩,by exact eX⟩
   ·have HNO:=Hm h1
    by_cases h2:p.r.oid=o
    ·have h3:(p.r.ver==v)=false:=by simpa using (fun h=>h1 ⟨h2,h⟩)
     rw [h2] at f0
     clear HGP h1
     go_wp2
     go_region_held3 (fun w' =>Ext (wr) w'∧(∀b o,b<(wr).heap.size→w'.cell? ⟨b,o,none⟩=(wr).cell? ⟨b,o,none⟩)∧(∀b o,b<(wr).heap.size→w'.frozen? ⟨b,o,none⟩=(wr).frozen? ⟨b,o,none⟩)) ((exact held_of (by exact eX))) (fail)
     go_wp2
     go_roundw
     case rel=>exact ⟨k+1,by omega,by go_num,Hm (fun j hj hjk=>by
      by_cases e:j=k
      ·subst e;rw [←HP.out];exact HNO.out
      ·exact hrel.out j hj (by omega)),Hm (by have hE:=hE.out;exact eX)⟩
     case measure=>simp [intOf];omega
    ·have h3:(p.r.oid==o)=false:=by simpa using h2
     clear HGP h1 h2
     go_wp2
     go_region_held3 (fun w' =>Ext (wr) w'∧(∀b o,b<(wr).heap.size→w'.cell? ⟨b,o,none⟩=(wr).cell? ⟨b,o,none⟩)∧(∀b o,b<(wr).heap.size→w'.frozen? ⟨b,o,none⟩=(wr).frozen? ⟨b,o,none⟩)) ((exact held_of (by exact eX))) (fail)
     go_wp2
     go_roundw
     case rel=>exact ⟨k+1,by omega,by go_num,Hm (fun j hj hjk=>by
      by_cases e:j=k
      ·subst e;rw [←HP.out];exact HNO.out
      ·exact hrel.out j hj (by omega)),Hm (by have hE:=hE.out;exact eX)⟩
     case measure=>simp [intOf];omega
  ·have HN:=Hm (getP_none (o:=o) (v:=v) (ps:=ps) (fun j hj=>hrel.out j hj (by omega)))
   have HEW:=Hm hEw
   clear hEw
   go_wp2
   simp [bodyPost,results,Tryz.results55,go_sem, *]
   have hEw:=HEW.out
   exact ⟨⟨by rw [HN.out];rfl,by rw [HN.out]⟩,by exact eX⟩
theorem posR_in {ro rv:Int} {ps:List RR} {i:Nat} (hi:i≤ps.length) (h1:∀m (h:m<ps.length),m<i→aheadP ps[m].r.oid ps[m].r.ver ro rv) (h2:∀m (h:m<ps.length),i≤m→¬ aheadP ps[m].r.oid ps[m].r.ver ro rv):posR ro rv (ps.map RR.r)=i:=by
 refine posR_of (by rw [List.length_map];exact hi) (fun j hj hji=> ?_) (fun hj=> ?_)
 ·rw [List.getElem_map];exact h1 j (by rwa [List.length_map] at hj) hji
 ·rw [List.getElem_map];exact h2 i (by rwa [List.length_map] at hj) (Nat.le_refl _)
theorem bs_any (ps:List RR) (a:Option Addr) (cap:Nat) (ro rv:Int) (w:World) (hl:RL w (.slice a ps.length cap) ps) (hlen:ps.length≤1000) (hs:Srt (ps.map RR.r)):
 Calls Tryz.prog 90 #[.slice a ps.length cap, .agg #[.int .u32 ro, .int .u32 rv], .func (.func 91) #[] #[]] w fun e w' =>e= .returned (.tuple #[.int .i64 (posR ro rv (ps.map RR.r):Nat), .bool (hasR ro rv (ps.map RR.r))])∧Ext w w' :=by
 have HL:=Hm hl.row
 have HS:=Hm hs
 have HF:=Hm (fun p W=>find1_any p ro rv W)
 unfold RR.agg at HF
 clear hl hs
 go_enter Tryz.func90,Tryz.ntmps90
 go_wp2
 go_loopw [9,10] (fun i j wr=>∃x y:Nat,x≤y∧y≤ps.length∧i= .int .i64 x∧j= .int .i64 y∧Hid (∀m (h:m<ps.length),m<x→aheadP ps[m].r.oid ps[m].r.ver ro rv)∧Hid (∀m (h:m<ps.length),y≤m→¬ aheadP ps[m].r.oid ps[m].r.ver ro rv)∧Hid (Ext (w.alloc (.cells #[.int .u32 ro, .int .u32 rv] 69)) wr)) (fun i j _=>(intOf j).toNat - (intOf i).toNat)
 case atStart=>exact ⟨0,ps.length,Nat.zero_le _,Nat.le_refl _,rfl,rfl,Hm (fun m h h2=>by omega),Hm (fun m h h2=>by omega),Hm (Ext.refl _)⟩
 case round=>
  obtain ⟨x,y,hxy,hy,rfl,rfl,hlo,hhi,hE⟩:=hrel
  have hEw:Ext w wr:=((Ext.refl w).alloc _).trans hE.out
  have HB0:=Hm ((Blk.new w #[.int .u32 ro, .int .u32 rv] 69).ext hE.out)
  have g0:=HB0.out.cell
  have z0:=HB0.out.lt
  have HEW:=Hm hEw
  by_cases hlt:x<y
  ·obtain ⟨h,hh⟩:∃h:Nat,h=(x+y) / 2:=⟨_,rfl⟩
   have hhp:h<ps.length:=by omega
   obtain ⟨b,q,rfl,hb,hx⟩:=HL.out.at_ (i:=h) (by simpa using hhp)
   obtain ⟨f0,f1,f2,f3,f4⟩:=RR.at_ hhp hx hb hEw
   have hbw:b<wr.heap.size:=Nat.lt_of_lt_of_le hb hEw.size
   have HHI:=Hm (hhi.out)
   have HLO:=Hm (hlo.out)
   have hsx:∀m (hm:m<ps.length),m≤h→aheadP ps[h].r.oid ps[h].r.ver ro rv→aheadP ps[m].r.oid ps[m].r.ver ro rv:=fun m hm hmh hq=>by
    rcases Nat.eq_or_lt_of_le hmh with e|e
    ·subst e;exact hq
    ·have:=HS.out.at_ (i:=m) (j:=h) (by simpa using hm) (by simpa using hhp) e
     unfold Rl.lt at this
     simp only [List.getElem_map] at this
     exact ahead_trans this hq
   have hsy:∀m (hm:m<ps.length),h≤m→¬ aheadP ps[h].r.oid ps[h].r.ver ro rv→¬ aheadP ps[m].r.oid ps[m].r.ver ro rv:=fun m hm hmh hq hq2=>by
    rcases Nat.eq_or_lt_of_le hmh with e|e
    ·subst e;exact hq hq2
    ·have:=HS.out.at_ (i:=h) (j:=m) (by simpa using hhp) (by simpa using hm) e
     unfold Rl.lt at this
     simp only [List.getElem_map] at this
     exact hq (ahead_trans this hq2)
   have HSX:=Hm hsx
   have HSY:=Hm hsy
   have HCN:=Hm (cmpR_neg (o1:=ps[h].r.oid) (v1:=ps[h].r.ver) (o2:=ro) (v2:=rv))
   have HFW:=Hm (fun W=>HF.out ps[h] W)
   obtain ⟨p,hp⟩:∃p,p=ps[h]:=⟨_,rfl⟩
   rw [←hp] at f0 f1 f2 f3 f4 HSX HSY HCN HFW
   obtain ⟨A,hA⟩:∃A,A=cmpR p.r.oid p.r.ver ro rv:=⟨_,rfl⟩
   rw [←hA] at HCN HFW
   have e1:IntKind.i64.wrap ((x:Int)+(y:Int))=(x:Int)+(y:Int):=by rw [IntKind.wrap_i64];omega
   have e2:IntKind.u64.wrap ((x:Int)+(y:Int))=(x:Int)+(y:Int):=by rw [IntKind.wrap_u64];omega
   have e3:((x:Int)+(y:Int)) / 2=(h:Int):=by omega
   have HH:=Hm hh
   clear hx hp hA hsx hsy hhi hlo hEw hh
   by_cases hA:A<0
   ·have HA:=Hm (HCN.out.1 hA)
    go_wp2
    go_region_held3 (fun w' =>Ext (wr) w'∧(∀b o,b<(wr).heap.size→w'.cell? ⟨b,o,none⟩=(wr).cell? ⟨b,o,none⟩)∧(∀b o,b<(wr).heap.size→w'.frozen? ⟨b,o,none⟩=(wr).frozen? ⟨b,o,none⟩)) ((exact held_of (by exact eX))) (first|(go_at_call 91;refine (HFW.out _).mono ?_;rintro e w2 ⟨rfl,hb2⟩;have HE2:=Hm (show Ext wr w2 by exact eX)))
    clear hb2
    go_wp2
    go_roundw
    case rel=>exact ⟨h+1,y,by have:=HH.out;omega,hy,by go_num,rfl,Hm (fun m hm hmh=>HSX.out m hm (by omega) HA.out),HHI,Hm (hE.out.trans (by have:=HE2.out;exact eX))⟩
    case measure=>have:=HH.out;simp [intOf];omega
   ·have HA:=Hm (fun q=>hA (HCN.out.2 q))
    go_wp2
    go_region_held3 (fun w' =>Ext (wr) w'∧(∀b o,b<(wr).heap.size→w'.cell? ⟨b,o,none⟩=(wr).cell? ⟨b,o,none⟩)∧(∀b o,b<(wr).heap.size→w'.frozen? ⟨b,o,none⟩=(wr).frozen? ⟨b,o,none⟩)) ((exact held_of (by exact eX))) (first|(go_at_call 91;refine (HFW.out _).mono ?_;rintro e w2 ⟨rfl,hb2⟩;have HE2:=Hm (show Ext wr w2 by exact eX)))
    clear hb2
    go_wp2
    go_roundw
    case rel=>exact ⟨x,h,by have:=HH.out;omega,by omega,rfl,rfl,HLO,Hm (fun m hm hmh=>HSY.out m hm hmh HA.out),Hm (hE.out.trans (by have:=HE2.out;exact eX))⟩
    case measure=>have:=HH.out;simp [intOf];omega
  ·obtain rfl:x=y:=by omega
   have HP:=Hm (posR_in (ro:=ro) (rv:=rv) hy hlo.out hhi.out)
   have HHS:=Hm (HS.out.has ro rv)
   by_cases hlt2:x<ps.length
   ·obtain ⟨b,q,rfl,hb,hx⟩:=HL.out.at_ (i:=x) (by simpa using hlt2)
    obtain ⟨f0,f1,f2,f3,f4⟩:=RR.at_ hlt2 hx hb hEw
    have hbw:b<wr.heap.size:=Nat.lt_of_lt_of_le hb hEw.size
    have HH2:Hid (hasR ro rv (ps.map RR.r)=decide (cmpR ps[x].r.oid ps[x].r.ver ro rv=0)):=Hm (by
     rw [HHS.out]
     have hp:=HP.out
     apply decide_eq_decide.2
     rw [cmpR_zero]
     constructor
     ·rintro ⟨h1,h2⟩
      simp only [hp,List.getElem_map] at h2
      exact h2
     ·intro h2
      refine ⟨by rw [hp,List.length_map];exact hlt2, ?_⟩
      simp only [hp,List.getElem_map]
      exact h2)
    have HFW:=Hm (fun W=>HF.out ps[x] W)
    obtain ⟨p,hp⟩:∃p,p=ps[x]:=⟨_,rfl⟩
    rw [←hp] at f0 f1 f2 f3 f4 HFW HH2
    obtain ⟨A,hA⟩:∃A,A=cmpR p.r.oid p.r.ver ro rv:=⟨_,rfl⟩
    rw [←hA] at HFW HH2
    clear hx hp hA hEw hhi hlo hlt
    by_cases hA:A=0
    ·subst hA
     go_wp2
     go_region_held3 (fun w' =>Ext (wr) w'∧(∀b o,b<(wr).heap.size→w'.cell? ⟨b,o,none⟩=(wr).cell? ⟨b,o,none⟩)∧(∀b o,b<(wr).heap.size→w'.frozen? ⟨b,o,none⟩=(wr).frozen? ⟨b,o,none⟩)) ((exact held_of (by exact eX))) (first|(go_at_call 91;refine (HFW.out _).mono ?_;rintro e w2 ⟨rfl,hb2⟩;have HE2:=Hm (show Ext wr w2 by exact eX)))
     clear hb2
     go_wp2
     go_ret2
     exact ⟨by rw [HP.out,HH2.out];rfl,HEW.out.trans (by have:=HE2.out;exact eX)⟩
    ·have hA' :(A==0)=false:=by simpa using hA
     have HN:=Hm (HH2.out.trans (decide_eq_false hA))
     clear hA
     go_wp2
     go_region_held3 (fun w' =>Ext (wr) w'∧(∀b o,b<(wr).heap.size→w'.cell? ⟨b,o,none⟩=(wr).cell? ⟨b,o,none⟩)∧(∀b o,b<(wr).heap.size→w'.frozen? ⟨b,o,none⟩=(wr).frozen? ⟨b,o,none⟩)) ((exact held_of (by exact eX))) (first|(go_at_call 91;refine (HFW.out _).mono ?_;rintro e w2 ⟨rfl,hb2⟩;have HE2:=Hm (show Ext wr w2 by exact eX)))
     clear hb2
     go_wp2
     go_ret2
     exact ⟨by rw [HP.out,HN.out];rfl,HEW.out.trans (by have:=HE2.out;exact eX)⟩
   ·obtain rfl:x=ps.length:=by omega
    have HN:Hid (hasR ro rv (ps.map RR.r)=false):=Hm (by
     rw [HHS.out]
     apply decide_eq_false
     rintro ⟨h1, -⟩
     rw [HP.out,List.length_map] at h1
     omega)
    clear hEw hhi hlo hlt HHS
    go_wp2
    refine wp_region_head 15 (fun w' =>Ext (wr) w'∧(∀b o,b<(wr).heap.size→w'.cell? ⟨b,o,none⟩=(wr).cell? ⟨b,o,none⟩)∧(∀b o,b<(wr).heap.size→w'.frozen? ⟨b,o,none⟩=(wr).frozen? ⟨b,o,none⟩)) (by kernel_rfl) (by decide) ?_
    have hA0:Hid ((fun w' =>Ext (wr) w'∧(∀b o,b<(wr).heap.size→w'.cell? ⟨b,o,none⟩=(wr).cell? ⟨b,o,none⟩)∧(∀b o,b<(wr).heap.size→w'.frozen? ⟨b,o,none⟩=(wr).frozen? ⟨b,o,none⟩)) wr.drew):=held_of (by exact eX)
    refine HG.on 0 35 hA0.out ?_
    try simp only [Act.put,List.setIfInBounds_toArray,List.set_cons_zero,List.set_cons_succ]
    refine HG.on 1 36 hA0.out ?_
    try simp only [Act.put,List.setIfInBounds_toArray,List.set_cons_zero,List.set_cons_succ]
    refine HG.on 2 37 hA0.out ?_
    try simp only [Act.put,List.setIfInBounds_toArray,List.set_cons_zero,List.set_cons_succ]
    refine HG.on 3 38 hA0.out ?_
    try simp only [Act.put,List.setIfInBounds_toArray,List.set_cons_zero,List.set_cons_succ]
    refine HG.on 4 39 hA0.out ?_
    try simp only [Act.put,List.setIfInBounds_toArray,List.set_cons_zero,List.set_cons_succ]
    refine wpHd_takeD (i:=5) (d:=some 40) (v:=undef) rfl rfl (by kernel_rfl) (by kernel_rfl) (by kernel_rfl) (fun _ _ _ h=>h) (Or.inr ⟨by rfl,rfl⟩) hA0.out ?_
    try simp only [Act.put,List.setIfInBounds_toArray,List.set_cons_zero,List.set_cons_succ]
    refine wpHd_takeD (i:=6) (d:=some 41) (v:=undef) rfl rfl (by kernel_rfl) (by kernel_rfl) (by kernel_rfl) (fun _ _ _ h=>h) (Or.inr ⟨by rfl,rfl⟩) hA0.out ?_
    try simp only [Act.put,List.setIfInBounds_toArray,List.set_cons_zero,List.set_cons_succ]
    refine wpHd_takeD (i:=7) (d:=some 42) (v:=undef) rfl rfl (by kernel_rfl) (by kernel_rfl) (by kernel_rfl) (fun _ _ _ h=>h) (Or.inr ⟨by rfl,rfl⟩) hA0.out ?_
    try simp only [Act.put,List.setIfInBounds_toArray,List.set_cons_zero,List.set_cons_succ]
    refine wpHd_takeD (i:=8) (d:=some 43) (v:=undef) rfl rfl (by kernel_rfl) (by kernel_rfl) (by kernel_rfl) (fun _ _ _ h=>h) (Or.inr ⟨by rfl,rfl⟩) hA0.out ?_
    try simp only [Act.put,List.setIfInBounds_toArray,List.set_cons_zero,List.set_cons_succ]
    refine wpHd_takeD (i:=9) (d:=some 44) (v:=undef) rfl rfl (by kernel_rfl) (by kernel_rfl) (by kernel_rfl) (fun _ _ _ h=>h) (Or.inr ⟨by rfl,rfl⟩) hA0.out ?_
    try simp only [Act.put,List.setIfInBounds_toArray,List.set_cons_zero,List.set_cons_succ]
    refine wpHd_takeD (i:=10) (d:=some 45) (v:=undef) rfl rfl (by kernel_rfl) (by kernel_rfl) (by kernel_rfl) (fun _ _ _ h=>h) (Or.inr ⟨by rfl,rfl⟩) hA0.out ?_
    try simp only [Act.put,List.setIfInBounds_toArray,List.set_cons_zero,List.set_cons_succ]
    refine wpHd_takeD (i:=11) (d:=some 46) (v:=undef) rfl rfl (by kernel_rfl) (by kernel_rfl) (by kernel_rfl) (fun _ _ _ h=>h) (Or.inr ⟨by rfl,rfl⟩) hA0.out ?_
    try simp only [Act.put,List.setIfInBounds_toArray,List.set_cons_zero,List.set_cons_succ]
    refine wpHd_takeD (i:=12) (d:=some 47) (v:=undef) rfl rfl (by kernel_rfl) (by kernel_rfl) (by kernel_rfl) (fun _ _ _ h=>h) (Or.inr ⟨by rfl,rfl⟩) hA0.out ?_
    try simp only [Act.put,List.setIfInBounds_toArray,List.set_cons_zero,List.set_cons_succ]
    refine HG.on 13 48 hA0.out ?_
    try simp only [Act.put,List.setIfInBounds_toArray,List.set_cons_zero,List.set_cons_succ]
    refine HG.on 14 6 hA0.out ?_
    try simp only [Act.put,List.setIfInBounds_toArray,List.set_cons_zero,List.set_cons_succ]
    refine wpHd_tail (by kernel_rfl) ?_
    simp only [List.drop_succ_cons,List.drop_zero]
    go_wp2
    go_ret2
    exact ⟨by rw [HP.out,HN.out];rfl,HEW.out.trans (by exact eX)⟩
theorem find_any (N g:Nat) (c:Value) (ps:List RR) (ro rv:Int) (w:World) (hc:Ca w N g c ps):
 Calls Tryz.prog 64 #[.pointer (some ⟨g,0,none⟩), .agg #[.int .u32 ro, .int .u32 rv]] w fun e w' =>e= .returned (.tuple #[.int .i64 (posR ro rv (ps.map RR.r):Nat), .bool (hasR ro rv (ps.map RR.r))])∧Ext w w' :=by
 obtain ⟨a,cap,rfl⟩:=hc.shape
 have HB:=Hm (fun W (h:Ext w W)=>bs_any ps a cap ro rv W (hc.rl.ext h) (by have:=hc.n64;omega) hc.ok.srt)
 have g0:=hc.ptr.cell
 have z0:=hc.ptr.lt
 clear hc
 go_enter Tryz.func64,Tryz.ntmps64
 go_wp2
 go_region_held3 (fun w' =>Ext (w.alloc (.cells #[.int .u32 ro, .int .u32 rv] 69)) w'∧(∀b o,b<(w.alloc (.cells #[.int .u32 ro, .int .u32 rv] 69)).heap.size→w'.cell? ⟨b,o,none⟩=(w.alloc (.cells #[.int .u32 ro, .int .u32 rv] 69)).cell? ⟨b,o,none⟩)∧(∀b o,b<(w.alloc (.cells #[.int .u32 ro, .int .u32 rv] 69)).heap.size→w'.frozen? ⟨b,o,none⟩=(w.alloc (.cells #[.int .u32 ro, .int .u32 rv] 69)).frozen? ⟨b,o,none⟩)) ((exact held_of (by exact eX))) (first|(go_at_call 90;refine (HB.out _ (by exact eX)).mono ?_;rintro e w2 ⟨rfl,hb2⟩))
 go_wp2
 go_ret2
 exact ⟨rfl,by exact eX⟩
end Go.Proofs.YtgmphpccpfaapaaGreatDoor
