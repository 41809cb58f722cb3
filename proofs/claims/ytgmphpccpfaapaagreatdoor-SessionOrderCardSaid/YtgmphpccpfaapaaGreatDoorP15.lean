/-
The program's IsKey and IsFull.
-/
import Derived.Test.YtgmphpccpfaapaaGreatDoorP14
import Derived.Test.YtgmphpccpfaapaaGreatDoorP5
set_option maxRecDepth 100000
set_option maxHeartbeats 16000000
namespace Go.Proofs.YtgmphpccpfaapaaGreatDoor
open Go.RowKit
theorem K.zero_of {c:K} (h:c.k=0) (h1:c.v.ty=0) (h2:c.v.n=0) (h3:(c.v.x:Int)=0) (h4:(c.v.y:Int)=0) (h5:c.v.s.size=0):c=K.zero:=by
 obtain ⟨k,ty,n,x,y,s⟩:=c
 simp only at h h1 h2 h3 h4 h5
 subst h h1 h2
 obtain rfl:x=0:=by omega
 obtain rfl:y=0:=by omega
 obtain rfl:s=ByteArray.empty:=(size_zero s).2 h5
 rfl
theorem isKey_row {l:List K} {r:Rl} (h:keyedE l r=0) (_hk:∀c∈l,c.wk):rowB l (keyOf r.cols l)=decide (firstE (nonE r.cols l) l.length=0):=by
 obtain ⟨-,hll,hr⟩:=fits_zero (keyed_fits h)
 rw [Bool.eq_iff_iff,rowB_true,decide_eq_true_iff]
 constructor
 ·intro e
  refine firstE_zero fun i hi=> ?_
  unfold nonE
  rw [if_neg]
  rintro ⟨h1,h2⟩
  rw [kindAt_lt hi] at h2
  have hi2:i<(keyOf r.cols l).length:=by rw [keyOf_len];exact hi
  have e2:l[i]=(keyOf r.cols l)[i]:=by
   have:=congrArg (fun m:List K=>m[i]?) e
   simp only [List.getElem?_eq_getElem hi,List.getElem?_eq_getElem hi2] at this
   exact Option.some.inj this
  rw [keyOf_get,if_neg (by rw [h1];simp)] at e2
  exact h2 (by rw [e2];rfl)
 ·intro h0
  apply List.ext_getElem
  ·rw [keyOf_len]
  ·intro i h1 h2
   rw [keyOf_get]
   by_cases hq:isKeyAt r.cols i=true
   ·rw [if_pos hq]
   ·rw [if_neg hq]
    have:=firstE_all h0 i h1
    unfold nonE at this
    have hz:l[i].k=0:=by
     refine Classical.byContradiction fun hc=> ?_
     rw [if_pos ⟨by simpa using hq,by rw [kindAt_lt h1];exact hc⟩] at this
     cases this
    have hrt:=hr i h1 (by omega)
    unfold K.right at hrt
    rw [hz] at hrt
    obtain ⟨z1,z2,z3,z4,z5, -⟩:=right_same (by decide) hrt
    exact K.zero_of hz z1 z2 z3 z4 z5
theorem samef_any (c:K) (w:World):
 Calls Tryz.prog 148 #[.agg #[.int .u8 c.k, .int .u8 c.v.ty, .int .i64 c.v.n, .complex .f64 c.v.x c.v.y, .string c.v.s]] w fun e w' =>e= .returned (.bool (c.k==1))∧Ext w w' :=by
 go_enter Tryz.func148,Tryz.ntmps148
 go_wp2
 go_ret
 exact ⟨rfl,by exact eX⟩
theorem sameidx_any (l:List K) (a:Option Addr) (cap:Nat) (w:World) (hl:Sl w (.slice a l.length cap) 5 (l.map K.pc)) (hlen:l.length≤1000):
 Calls Tryz.prog 167 #[.slice a l.length cap, .func (.func 148) #[] #[]] w (IdxPost l (fun c=>c.k==1) w):=by
 have HL:=Hm hl
 clear hl
 go_enter Tryz.func167,Tryz.ntmps167
 go_wp2
 go_loopw [8] (fun i wr=>∃k:Nat,k≤l.length∧i= .int .i64 k∧Hid (∀j (hj:j<l.length),j<k→(l[j].k==1)=false)∧Hid (Ext w wr)) (fun i _=>l.length - (intOf i).toNat)
 case atStart=>exact ⟨0,Nat.zero_le _,rfl,fun j _ h=>by omega,Ext.refl _⟩
 case round=>
  obtain ⟨k,hk,rfl,hrel,hE⟩:=hrel
  by_cases hlt:k<l.length
  ·obtain ⟨b,o,rfl,hb,hx⟩:=HL.out.at_ (i:=k) (by simpa using hlt)
   obtain ⟨f0,f1,f2,f3,f4⟩:=K.pcAt hlt hx hb hE.out
   have hbw:b<wr.heap.size:=Nat.lt_of_lt_of_le hb hE.out.size
   have HF:=Hm (fun W=>samef_any l[k] W)
   cases hq:(l[k].k==1) with
   |true=>
    rw [hq] at HF
    have HQ:=Hm (any_at (p:=fun c:K=>c.k==1) hlt hq)
    clear hq hx
    go_wp2_with (go_at_call 148;refine (HF.out _).mono ?_;rintro e w1 ⟨rfl,hb1⟩)
    go_ret
    exact ⟨_,rfl,by rw [HQ.out];simp,hE.out.trans (by exact eX)⟩
   |false=>
    rw [hq] at HF
    have HQ:=Hm hq
    clear hq hx
    go_wp2_with (go_at_call 148;refine (HF.out _).mono ?_;rintro e w1 ⟨rfl,hb1⟩)
    go_roundw
    case rel=>exact ⟨k+1,by omega,by go_num,fun j hj hjk=>by
     by_cases e:j=k
     ·subst e;exact HQ.out
     ·exact hrel.out j hj (by omega),Hm (hE.out.trans (by exact eX))⟩
    case measure=>simp [intOf];omega
  ·have hkk:k=l.length:=by omega
   have HQ:=Hm (any_none (p:=fun c:K=>c.k==1) fun j hj=>hrel.out j hj (by omega))
   subst hkk
   go_wp2
   go_ret
   exact ⟨_,rfl,by rw [HQ.out];simp,hE.out⟩
theorem samehas_any (l:List K) (a:Option Addr) (cap:Nat) (w:World) (hl:Sl w (.slice a l.length cap) 5 (l.map K.pc)) (hlen:l.length≤1000):
 Calls Tryz.prog 147 #[.slice a l.length cap, .func (.func 148) #[] #[]] w fun e w' =>e= .returned (.bool (l.any fun c=>c.k==1))∧Ext w w' :=by
 have HI:=Hm (sameidx_any l a cap w hl hlen)
 clear hl
 go_enter Tryz.func147,Tryz.ntmps147
 go_wp2_with (go_at_call 167;refine HI.out.mono ?_;rintro e w1 ⟨i,rfl,hi,hb1⟩;have HI2:=Hm hi;clear hi)
 go_ret
 exact ⟨ret_bool HI2.out,hb1⟩
theorem same_any {l:List K} :firstE (sameE l) l.length=if (l.any fun c=>c.k==1)=true then 14 else 0:=by
 cases h:l.any fun c=>c.k==1 with
 |false=>
  rw [List.any_eq_false] at h
  rw [if_neg (by simp)]
  refine firstE_zero fun i hi=> ?_
  unfold sameE
  rw [kindAt_lt hi,if_neg]
  have:=h _ (List.getElem_mem hi)
  simpa using this
 |true=>
  rw [if_pos rfl]
  by_cases h0:firstE (sameE l) l.length=0
  ·rw [List.any_eq_true] at h
   obtain ⟨c,hc,h1⟩:=h
   obtain ⟨i,hi,rfl⟩:=List.getElem_of_mem hc
   have:=firstE_all h0 i hi
   unfold sameE at this
   rw [kindAt_lt hi,if_pos (by simpa using h1)] at this
   cases this
  ·obtain ⟨k,hk,_,h2⟩:=firstE_get h0
   rw [h2] at h0⊢
   unfold sameE at h0⊢
   split at h0
   ·rename_i h3;rw [if_pos h3]
   ·exact absurd rfl h0
theorem isKey_any' (oid ver:Int) (nm:ByteArray) (id:Int) (cols:List Col) (a2:Option Addr) (cap2:Nat) (l:List K) (a:Option Addr) (cap:Nat) (w:World) (hl2:Sl w (.slice a2 cols.length cap2) 3 (cols.map Col.cells)) (hcap2:cols.length≤cap2) (hlen2:cols.length≤1000) (hl:Sl w (.slice a l.length cap) 5 (l.map K.pc)) (hlen:l.length≤1000) (hs:∀c∈l,c.wk) (hs2:∀c∈cols,c.nm.size≤9223372036854775807) (hnm:nm.size≤9223372036854775807):
 Calls Tryz.prog 126 #[.agg #[.int .u32 oid, .int .u32 ver, .string nm, .int .u8 id, .slice a2 cols.length cap2], .slice a l.length cap] w fun e w' =>e= .returned (.int .i64 (isKeyE l (⟨oid,ver,nm,id,cols⟩:Rl)))∧Ext w w' :=by
 have HKD:=Hm (fun W (h:Ext w W)=>keyedI_any oid ver nm id cols a2 cap2 l a cap W (hl2.ext h) hcap2 hlen2 (hl.ext h) hlen hs hs2 hnm)
 have HKO:=Hm (fun W (h:Ext w W)=>keyOf_any oid ver nm id cols a2 cap2 l a cap W (hl2.ext h) hlen2 (hl.ext h) hlen)
 have HL:=Hm hl
 have HRW:=Hm (fun h=>isKey_row (l:=l) (r:=(⟨oid,ver,nm,id,cols⟩:Rl)) h hs)
 have HKE:Hid (isKeyE l (⟨oid,ver,nm,id,cols⟩:Rl)=if keyedE l (⟨oid,ver,nm,id,cols⟩:Rl)≠0 then keyedE l (⟨oid,ver,nm,id,cols⟩:Rl) else firstE (nonE cols l) l.length):=Hm rfl
 obtain ⟨E,hE⟩:∃E,E=keyedE l (⟨oid,ver,nm,id,cols⟩:Rl):=⟨_,rfl⟩
 rw [←hE] at HKD HKE
 have HEQ:=Hm hE
 clear hl hl2 hs hs2 hE
 by_cases h0:E=0
 case neg=>
  have HKE2:=Hm (HKE.out.trans (if_pos h0))
  have h0' :(E !=0)=true:=by simpa using h0
  clear h0 HKE HEQ
  go_enter Tryz.func126,Tryz.ntmps126
  go_wp2_with (go_at_call 128;refine (HKD.out _ (by exact eX)).mono ?_;rintro e w1 ⟨rfl,hb1⟩;have hE1:Ext w w1:=(by exact eX))
  go_ret
  exact ⟨ret_int HKE2.out.symm,hE1⟩
 subst h0
 have HKE2:=Hm (HKE.out.trans (if_neg (by simp)))
 have HRW2:=Hm (HRW.out HEQ.out.symm)
 have HAL:=Hm (fun W g c (h:Ext w W) (hr:RowAt W g (keyOf cols l))=>(alike_any l (keyOf cols l) a (some ⟨g,0,none⟩) cap c W (HL.out.ext h) (hr.sl c) hlen (by rw [keyOf_len];exact hlen)))
 rw [HRW2.out,keyOf_len] at HAL
 clear HKE HEQ HRW
 by_cases h1:firstE (nonE cols l) l.length=0
 ·rw [decide_eq_true h1] at HAL
  have HR:=Hm (HKE2.out.trans h1)
  clear h1 HRW2
  go_enter Tryz.func126,Tryz.ntmps126
  go_wp2_with (first
   |(go_at_call 128;refine (HKD.out _ (by exact eX)).mono ?_;rintro e w1 ⟨rfl,hb1⟩;have hE1:Ext w w1:=(by exact eX);have g0:=((Blk.new w #[.int .u32 oid, .int .u32 ver, .string nm, .int .u8 id, .slice a2 cols.length cap2] 72).ext hb1).cell)
   |(go_at_call 130;refine (HKO.out _ hE1).mono ?_;rintro e w2 ⟨g,c,rfl,hc,hg,hr,hb2⟩;have HR2:=Hm hr;have hE2:=hE1.trans hb2;clear hr hc hg)
   |(go_at_call 129;refine (HAL.out _ _ _ hE2 HR2.out).mono ?_;rintro e w3 ⟨rfl,hb3⟩))
  go_ret
  exact ⟨ret_int HR.out.symm,hE2.trans hb3⟩
 ·rw [decide_eq_false h1] at HAL
  have HR:=Hm (HKE2.out.trans (show firstE (nonE cols l) l.length=14 by
   obtain ⟨k,hk,_,h2⟩:=firstE_get h1
   rw [h2] at h1⊢
   unfold nonE at h1⊢
   split at h1
   ·rename_i h3;rw [if_pos h3]
   ·exact absurd rfl h1))
  clear h1 HRW2
  go_enter Tryz.func126,Tryz.ntmps126
  go_wp2_with (first
   |(go_at_call 128;refine (HKD.out _ (by exact eX)).mono ?_;rintro e w1 ⟨rfl,hb1⟩;have hE1:Ext w w1:=(by exact eX);have g0:=((Blk.new w #[.int .u32 oid, .int .u32 ver, .string nm, .int .u8 id, .slice a2 cols.length cap2] 72).ext hb1).cell)
   |(go_at_call 130;refine (HKO.out _ hE1).mono ?_;rintro e w2 ⟨g,c,rfl,hc,hg,hr,hb2⟩;have HR2:=Hm hr;have hE2:=hE1.trans hb2;clear hr hc hg)
   |(go_at_call 129;refine (HAL.out _ _ _ hE2 HR2.out).mono ?_;rintro e w3 ⟨rfl,hb3⟩))
  go_ret
  exact ⟨ret_int HR.out.symm,hE2.trans hb3⟩
theorem isFull_any' (oid ver:Int) (nm:ByteArray) (id:Int) (cols:List Col) (a2:Option Addr) (cap2:Nat) (l:List K) (a:Option Addr) (cap:Nat) (w:World) (hl2:Sl w (.slice a2 cols.length cap2) 3 (cols.map Col.cells)) (hcap2:cols.length≤cap2) (hlen2:cols.length≤1000) (hl:Sl w (.slice a l.length cap) 5 (l.map K.pc)) (hlen:l.length≤1000) (hs:∀c∈l,c.wk) (hs2:∀c∈cols,c.nm.size≤9223372036854775807) (hnm:nm.size≤9223372036854775807):
 Calls Tryz.prog 127 #[.agg #[.int .u32 oid, .int .u32 ver, .string nm, .int .u8 id, .slice a2 cols.length cap2], .slice a l.length cap] w fun e w' =>e= .returned (.int .i64 (isFullE l (⟨oid,ver,nm,id,cols⟩:Rl)))∧Ext w w' :=by
 have HKD:=Hm (fun W (h:Ext w W)=>keyedI_any oid ver nm id cols a2 cap2 l a cap W (hl2.ext h) hcap2 hlen2 (hl.ext h) hlen hs hs2 hnm)
 have HCF:=Hm (fun W (h:Ext w W)=>samehas_any l a cap W (hl.ext h) hlen)
 have HKE:Hid (isFullE l (⟨oid,ver,nm,id,cols⟩:Rl)=if keyedE l (⟨oid,ver,nm,id,cols⟩:Rl)≠0 then keyedE l (⟨oid,ver,nm,id,cols⟩:Rl) else firstE (sameE l) l.length):=Hm rfl
 have HSA:=Hm (same_any (l:=l))
 generalize keyedE l (⟨oid,ver,nm,id,cols⟩:Rl)=E at HKD HKE
 generalize (l.any fun c=>c.k==1)=B at HCF HSA
 clear hl hl2 hs hs2
 by_cases h0:E=0
 case neg=>
  have HKE2:=Hm (HKE.out.trans (if_pos h0))
  have h0' :(E !=0)=true:=by simpa using h0
  clear h0 HKE
  go_enter Tryz.func127,Tryz.ntmps127
  go_wp2_with (go_at_call 128;refine (HKD.out _ (by exact eX)).mono ?_;rintro e w1 ⟨rfl,hb1⟩;have hE1:Ext w w1:=(by exact eX))
  go_ret
  exact ⟨ret_int HKE2.out.symm,hE1⟩
 subst h0
 have HKE2:=Hm ((HKE.out.trans (if_neg (by simp))).trans HSA.out)
 clear HKE HSA
 cases B
 all_goals
  go_enter Tryz.func127,Tryz.ntmps127
  go_wp2_with (first
   |(go_at_call 128;refine (HKD.out _ (by exact eX)).mono ?_;rintro e w1 ⟨rfl,hb1⟩;have hE1:Ext w w1:=(by exact eX))
   |(go_at_call 147;refine (HCF.out _ hE1).mono ?_;rintro e w2 ⟨rfl,hb2⟩))
  go_ret
  exact ⟨ret_int (by rw [HKE2.out];simp),hE1.trans hb2⟩
end Go.Proofs.YtgmphpccpfaapaaGreatDoor
