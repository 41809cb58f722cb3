/-
The message of a relation: the reference's reader.
-/
import Derived.Test.YtgmphpccpfaapaaGreatDoorP40
import Derived.Test.YtgmphpccpfaapaaGreatDoorP38
import Derived.Test.YtgmphpccpfaapaaGreatDoorP8
import Derived.Test.YtgmphpccpfaapaaGreatDoorP9
set_option maxRecDepth 100000
set_option maxHeartbeats 16000000
namespace Go.Proofs.YtgmphpccpfaapaaGreatDoor
open Go.RowKit
def SK (g X:Nat) (W w' :World):Prop:=Kp (fun k=>k=g) W w'∧(∀o,w'.cell? ⟨X,o,none⟩=W.cell? ⟨X,o,none⟩)∧(∀o,w'.frozen? ⟨X,o,none⟩=W.frozen? ⟨X,o,none⟩)
theorem SK.of {g X:Nat} {W w' :World} {A:Array Value} {T:TypeId} (h:Kp (fun k=>k=g) W w') (hx:Blk W X A T) (hne:X≠g):SK g X W w' :=
 ⟨h,fun o=>h.cell hx.lt hne o,fun o=>by rw [(hx.kp h hne).frozen o,hx.frozen o]⟩
theorem Tryz.infoCol8:(Tryz.prog.info? 103).map (fun i=>(i.zero,i.size,i.bytes))=some (some (.agg #[.string ByteArray.empty, .int .u8 0, .bool false]),3,24):=by kernel_rfl
theorem Rl.right_nmc {r:Rl} (h:r.right=0) {i:Nat} (hi:i<r.cols.length):r.cols[i].nm.size≤31:=by
 have h3:firstE (colAt r.cols) r.cols.length=0:=by
  apply Classical.byContradiction
  intro hne
  unfold Rl.right at h
  rw [if_pos hne] at h
  repeat' split at h
  all_goals first|omega|cases h|exact hne h
 have h4:=firstE_all h3 i hi
 rw [colAt_lt hi] at h4
 unfold colE at h4
 by_cases h1:namedB r.cols[i].nm=false
 ·rw [if_pos h1] at h4;cases h4
 exact named_le (s:=r.cols[i].nm) (by simpa using h1)
theorem numL_one (x:Int):numL [x]=x:=by show 256*0+x=x;omega
theorem colsW_at {l:List Col} {k:Nat} (h:k<l.length):colsW (l.drop k)= [if l[k].key=true then 1 else 0]++(nameW l[k].nm++(octs l[k].ty 1++colsW (l.drop (k+1)))):=by
 rw [List.drop_eq_getElem_cons h]
 show colW l[k]++colsW (l.drop (k+1))=_
 unfold colW
 simp only [List.cons_append,List.append_assoc,List.nil_append]
theorem colsW_drop_le (l:List Col) (k:Nat):(colsW (l.drop k)).length≤(colsW l).length:=by
 induction l generalizing k with
 |nil=>simp
 |cons c l ih=>
  cases k with
  |zero=>exact Nat.le_refl _
  |succ k=>
   rw [List.drop_succ_cons]
   have h1:=ih k
   have h2:(colsW (c::l)).length=(colW c).length+(colsW l).length:=by
    show (colW c++colsW l).length=_
    rw [List.length_append]
   omega
theorem col_len (l:List Col):∀xs∈l.map Col.cells,xs.length=3:=by
 intro xs hxs
 rw [List.mem_map] at hxs
 obtain ⟨c,_,rfl⟩:=hxs
 rfl
theorem pbodyR_any (r:Rl) (g:Nat) (cv:Value) (w:World) (h:Rd w g (strOfNums (relW r))) (hr:r.right=0) (ho:B32 r.oid) (hv:B32 r.ver) (hid:0≤r.id):
 Calls Tryz.prog 25 #[.pointer (some ⟨g,0,none⟩),cv, .int .u8 82] w (BodyPost ⟨82,0,0,0,r,Ev0⟩ g w):=by
 have hg:=h.lt
 have hnm:=Rl.right_nm hr
 have hid2:=right_id hr
 have h16:=Rl.cols_le hr
 have hwr:=Rl.right_wr hr
 have hcl:=colsW_len r.cols hwr
 have hty:∀i (hi:i<r.cols.length),0≤r.cols[i].ty∧r.cols[i].ty<256:=fun i hi=>(hwr _ (List.getElem_mem hi)).2
 obtain ⟨o,v,nm,id,cols⟩:=r
 simp only at ho hv hid hnm hid2 h16 hwr hcl hty
 have e0:relW ⟨o,v,nm,id,cols⟩=refW o v++(nameW nm++(octs id 1++(octs cols.length 1++colsW cols))):=rfl
 rw [e0] at h
 have HP:=Hm (PS.start h 82)
 have HRF:=Hm (fun W (h:Rd W g (strOfNums (refW o v++(nameW nm++(octs id 1++(octs cols.length 1++colsW cols))))))=>pref_any g o v _ W h ho hv (by unfold nameW;simp only [List.length_append,octs_len,strL_len];omega))
 have HNA:=Hm (fun W (h:Rd W g (strOfNums (nameW nm++(octs id 1++(octs cols.length 1++colsW cols)))))=>pname_any g nm _ W h (by omega) (by simp only [List.length_append,octs_len];omega))
 have HID:=Hm (fun W (h:Rd W g (strOfNums (octs id 1++(octs cols.length 1++colsW cols))))=>show Calls Tryz.prog 51 #[.pointer (some ⟨g,0,none⟩), .int .u64 1] W (fun e w' =>e= .returned (.int .u64 id)∧Rd w' g (strOfNums (octs cols.length 1++colsW cols))∧Kp (fun k=>k=g) W w') from pnumO_any g id 1 _ W h (by simp only [List.length_append,octs_len];omega) hid (by omega) (by omega))
 have HCN:=Hm (fun W (h:Rd W g (strOfNums (octs cols.length 1++colsW cols)))=>show Calls Tryz.prog 51 #[.pointer (some ⟨g,0,none⟩), .int .u64 1] W (fun e w' =>e= .returned (.int .u64 cols.length)∧Rd w' g (strOfNums (colsW cols))∧Kp (fun k=>k=g) W w') from pnumO_any g cols.length 1 _ W h (by omega) (by omega) (by omega) (by omega))
 have HTL:Hid (∀k,(colsW (cols.drop k)).length≤16160):=Hm (fun k=>by have:=colsW_drop_le cols k;omega)
 have HKY:=Hm (fun k (hk:k<cols.length) W (h:Rd W g (strOfNums (colsW (cols.drop k))))=>show Calls Tryz.prog 51 #[.pointer (some ⟨g,0,none⟩), .int .u64 1] W (fun e w' =>e= .returned (.int .u64 (if cols[k].key=true then 1 else 0))∧Rd w' g (strOfNums (nameW cols[k].nm++(octs cols[k].ty 1++colsW (cols.drop (k+1)))))∧Kp (fun k=>k=g) W w') from by
  rw [colsW_at hk] at h
  have h2:=pnum_any g [if cols[k].key=true then 1 else 0] (nameW cols[k].nm++(octs cols[k].ty 1++colsW (cols.drop (k+1)))) W h (by have:=HTL.out (k+1);have:=(hwr _ (List.getElem_mem hk)).1;unfold nameW;simp only [List.length_append,List.length_singleton,octs_len,strL_len];omega) (by intro x hx;obtain rfl:x=_:=List.mem_singleton.1 hx;split<;>decide) (by simp)
  rw [numL_one] at h2
  exact h2)
 have HNK:=Hm (fun k (hk:k<cols.length) W (h:Rd W g (strOfNums (nameW cols[k].nm++(octs cols[k].ty 1++colsW (cols.drop (k+1))))))=>pname_any g cols[k].nm (octs cols[k].ty 1++colsW (cols.drop (k+1))) W h (by have:cols[k].nm.size≤31:=Rl.right_nmc hr hk;omega) (by have:=HTL.out (k+1);simp only [List.length_append,octs_len];omega))
 have HTY:=Hm (fun k (hk:k<cols.length) W (h:Rd W g (strOfNums (octs cols[k].ty 1++colsW (cols.drop (k+1)))))=>show Calls Tryz.prog 51 #[.pointer (some ⟨g,0,none⟩), .int .u64 1] W (fun e w' =>e= .returned (.int .u64 cols[k].ty)∧Rd w' g (strOfNums (colsW (cols.drop (k+1))))∧Kp (fun k=>k=g) W w') from pnumO_any g cols[k].ty 1 _ W h (by have:=HTL.out (k+1);omega) (by have:=hty k hk;omega) (by have:=hty k hk;omega) (by omega))
 have HTB:=Hm hty
 have HTK:=Hm (fun k (hk:k<cols.length)=>List.take_succ_eq_append_getElem (l:=cols) hk)
 obtain ⟨n,hn⟩:∃n,n=cols.length:=⟨_,rfl⟩
 have HNL:=Hm hn
 rw [←hn] at HP HRF HNA HID HCN h16
 have hnw:IntKind.i64.wrap (n:Int)=n:=by simp [IntKind.wrap,IntKind.signed,IntKind.bits];omega
 have hiw:IntKind.u8.wrap id=id:=by simp [IntKind.wrap,IntKind.signed,IntKind.bits];omega
 have hD0:Hid (cols.drop 0=cols):=Hm rfl
 have hDN:Hid (colsW (cols.drop n)= []):=Hm (by rw [hn,List.drop_length];rfl)
 have hTN:Hid (cols.take n=cols):=Hm (by rw [hn,List.take_length])
 obtain ⟨i0,hi,hz0,hz1,hz2⟩:=info_parts Tryz.infoCol8
 clear h hr ho hv hid hid2 hnm hwr hcl hty hn e0
 go_enter Tryz.func25,Tryz.ntmps25
 go_upto_region 13 with (go_at_call 52;refine (HRF.out _ HP.out.r).mono ?_;rintro e w1 ⟨rfl,hr1,hk1⟩;have HP1:=Hm (HP.out.call hr1 hk1);have c1:=HP1.out.x.cell;have c1f:=HP1.out.x.frozen;have c1z:=HP1.out.x.lt;clear hr1 hk1 HRF)
 have HP2:=Hm ((HP1.out.set 4 (.int .u32 o) rfl).set 5 (.int .u32 v) (A' := #[.int .u8 82, .int .u32 0, .int .u64 0, .int .u32 0, .int .u32 o, .int .u32 v, .string ⟨#[]⟩, .int .u8 0, .slice none 0 0, .int .u8 0, .int .u32 0, .int .u32 0, .int .u8 0, .slice none 0 0, .slice none 0 0, .slice none 0 0, .int .u8 0]) rfl)
 obtain ⟨w2,hw2⟩:∃W,W=(w1.setCell ⟨w.heap.size+1,4,none⟩ (.int .u32 o)).setCell ⟨w.heap.size+1,5,none⟩ (.int .u32 v):=⟨_,rfl⟩
 rw [←hw2] at HP2⊢
 clear hw2 HP1 HP c1 c1f c1z
 go_upto_region 14 with (go_at_call 53;refine (HNA.out _ HP2.out.r).mono ?_;rintro e w3 ⟨rfl,hr3,hk3⟩;have HP3:=Hm (HP2.out.call hr3 hk3);have c3:=HP3.out.x.cell;have c3f:=HP3.out.x.frozen;have c3z:=HP3.out.x.lt;clear hr3 hk3 HNA)
 have HP4:=Hm (HP3.out.set 6 (.string nm) (A' := #[.int .u8 82, .int .u32 0, .int .u64 0, .int .u32 0, .int .u32 o, .int .u32 v, .string nm, .int .u8 0, .slice none 0 0, .int .u8 0, .int .u32 0, .int .u32 0, .int .u8 0, .slice none 0 0, .slice none 0 0, .slice none 0 0, .int .u8 0]) rfl)
 obtain ⟨w4,hw4⟩:∃W,W=w3.setCell ⟨w.heap.size+1,6,none⟩ (.string nm):=⟨_,rfl⟩
 rw [←hw4] at HP4⊢
 clear hw4 HP3 HP2 c3 c3f c3z
 go_upto_region 15 with (go_at_call 51;refine (HID.out _ HP4.out.r).mono ?_;rintro e w5 ⟨rfl,hr5,hk5⟩;have HP5:=Hm (HP4.out.call hr5 hk5);have c5:=HP5.out.x.cell;have c5f:=HP5.out.x.frozen;have c5z:=HP5.out.x.lt;clear hr5 hk5 HID)
 have HP6:=Hm (HP5.out.set 7 (.int .u8 id) (A' := #[.int .u8 82, .int .u32 0, .int .u64 0, .int .u32 0, .int .u32 o, .int .u32 v, .string nm, .int .u8 id, .slice none 0 0, .int .u8 0, .int .u32 0, .int .u32 0, .int .u8 0, .slice none 0 0, .slice none 0 0, .slice none 0 0, .int .u8 0]) rfl)
 obtain ⟨w6,hw6⟩:∃W,W=w5.setCell ⟨w.heap.size+1,7,none⟩ (.int .u8 id):=⟨_,rfl⟩
 rw [←hw6] at HP6⊢
 clear hw6 HP5 HP4 c5 c5f c5z
 go_upto_region 16 with (go_at_call 51;refine (HCN.out _ HP6.out.r).mono ?_;rintro e w7 ⟨rfl,hr7,hk7⟩;have HP7:=Hm (HP6.out.call hr7 hk7);clear hr7 hk7 HCN HP6)
 go_wp2
 go_loopw [9] (fun i wr=>∃(k:Nat) (a:Option Addr) (cp:Nat),k≤n∧i= .int .i64 k∧Hid (PS w g (colsW (cols.drop k)) #[.int .u8 82, .int .u32 0, .int .u64 0, .int .u32 0, .int .u32 o, .int .u32 v, .string nm, .int .u8 id, .slice a k cp, .int .u8 0, .int .u32 0, .int .u32 0, .int .u8 0, .slice none 0 0, .slice none 0 0, .slice none 0 0, .int .u8 0] wr)∧Hid (wr.ownsRow (w.heap.size+2) 103 3 (.slice a k cp) k (((cols.take k).map Col.cells).flatten))) (fun i _=>n - (intOf i).toNat)
 case atStart=>exact ⟨0,none,0,Nat.zero_le _,rfl,HP7,Hm (World.ownsRow_nil _ _ _ _)⟩
 case round=>
  obtain ⟨k,a,cp,hk,rfl,hP,hO⟩:=hrel
  have r0:=hP.out.r.cell
  have r0z:=hP.out.r.lt
  have x0:=hP.out.x.cell
  have x0z:=hP.out.x.lt
  by_cases hlt:k<n
  ·have hkc:k<cols.length:=by rw [←HNL.out];exact hlt
   have HK1:=Hm (HKY.out k hkc)
   have HK2:=Hm (HNK.out k hkc)
   have HK3:=Hm (HTY.out k hkc)
   have HTS:=Hm (HTK.out k hkc)
   have htb:=HTB.out k hkc
   obtain ⟨kb,hkb⟩:∃x:Int,x=(if cols[k].key=true then 1 else 0):=⟨_,rfl⟩
   have hkb1:kb≤1:=by rw [hkb];split<;>decide
   have hkb2:(kb==1)=cols[k].key:=by rw [hkb];cases cols[k].key<;>rfl
   rw [←hkb] at HK1
   obtain ⟨c,hc⟩:∃c,c=cols[k]:=⟨_,rfl⟩
   rw [←hc] at HK1 HK2 HK3 HTS htb hkb2
   obtain ⟨cnm,cty,ck⟩:=c
   simp only at HK1 HK2 HK3 htb hkb2
   clear hc hkb
   have htw:IntKind.u8.wrap cty=cty:=by simp [IntKind.wrap,IntKind.signed,IntKind.bits];omega
   clear htb
   go_upto_region 23 with (first
    |(go_at_call 51;refine (HK1.out _ hP.out.r).mono ?_;rintro e w8 ⟨rfl,hr8,hk8⟩;have HP8:=Hm (hP.out.call hr8 hk8);have HO8:=Hm (owns_kp hO.out hk8 (fun b hb e=>by have:=(hO.out.lt b hb).1;have:=hP.out.g;omega));clear hr8 hk8 HK1 r0 r0z x0 x0z)
    |(go_at_call 53;refine (HK2.out _ HP8.out.r).mono ?_;rintro e w9 ⟨rfl,hr9,hk9⟩;have HP9:=Hm (HP8.out.call hr9 hk9);have HO9:=Hm (owns_kp HO8.out hk9 (fun b hb e=>by have:=(HO8.out.lt b hb).1;have:=hP.out.g;omega));clear hr9 hk9 HK2 HP8 HO8))
   have hne:=(show w.heap.size+1≠g from by have:=hP.out.g;omega)
   have x9:=HP9.out.x.cell
   have x9f:=HP9.out.x.frozen
   have x9z:=HP9.out.x.lt
   have hA0:Hid (SK g (w.heap.size+1) w9 w9.drew):=Hm (SK.of (Kp.of_ext (Ext.refl w9).drew) HP9.out.x hne)
   refine wp_region_head 11 (SK g (w.heap.size+1) w9) (by kernel_rfl) (by decide) ?_
   refine HG.on 0 79 hA0.out ?_
   try simp only [Act.put,List.setIfInBounds_toArray,List.set_cons_zero,List.set_cons_succ]
   refine HG.on 1 80 hA0.out ?_
   try simp only [Act.put,List.setIfInBounds_toArray,List.set_cons_zero,List.set_cons_succ]
   refine HG.on 2 81 hA0.out ?_
   try simp only [Act.put,List.setIfInBounds_toArray,List.set_cons_zero,List.set_cons_succ]
   refine HG.on 3 82 hA0.out ?_
   try simp only [Act.put,List.setIfInBounds_toArray,List.set_cons_zero,List.set_cons_succ]
   refine HG.on 4 83 hA0.out ?_
   try simp only [Act.put,List.setIfInBounds_toArray,List.set_cons_zero,List.set_cons_succ]
   refine HG.on 7 86 hA0.out ?_
   try simp only [Act.put,List.setIfInBounds_toArray,List.set_cons_zero,List.set_cons_succ]
   refine HG.on 8 87 hA0.out ?_
   try simp only [Act.put,List.setIfInBounds_toArray,List.set_cons_zero,List.set_cons_succ]
   clear hA0
   refine wpHd_one (i:=5) rfl rfl (by kernel_rfl) (fun KK hK=> ?_)
   go_simp
   refine (HK3.out _ (HP9.out.r.ext (Ext.refl w9).drew)).mono ?_
   rintro e w10 ⟨rfl,hr10,hk10⟩
   have HK9:Hid (Kp (fun k=>k=g) w9 w10):=Hm ((Kp.of_ext (S:=fun k=>k=g) (Ext.refl w9).drew).trans hk10 (fun _ h _=>h))
   have hA1:Hid (SK g (w.heap.size+1) w9 w10):=Hm (SK.of HK9.out HP9.out.x hne)
   refine hK.out _ _ hA1.out (fun hA=> ?_)
   clear hK KK hA
   refine HG.on 6 85 hA1.out ?_
   try simp only [Act.put,List.setIfInBounds_toArray,List.set_cons_zero,List.set_cons_succ]
   refine HG.on 9 88 hA1.out ?_
   try simp only [Act.put,List.setIfInBounds_toArray,List.set_cons_zero,List.set_cons_succ]
   have HP10:=Hm (HP9.out.call hr10 HK9.out)
   have HO10:=Hm (owns_kp HO9.out HK9.out (fun b hb e=>by have:=(HO9.out.lt b hb).1;have:=hP.out.g;omega))
   clear hr10 hk10 hA1
   refine wpHd_one (i:=10) rfl rfl (by kernel_rfl) (fun KK hK=> ?_)
   go_simp
   refine hK.out _ _ (SK.of (HK9.out.trans (Kp.of_ext (S:=fun k=>k=g) ((Ext.refl w10).alloc _)) (fun _ h _=>h)) HP9.out.x hne) (fun hA=> ?_)
   clear hK KK hA
   refine wpHd_tail (by kernel_rfl) ?_
   simp only [List.drop_succ_cons,List.drop_zero]
   clear x9 x9f x9z HP9 HO9 HK9
   go_wp2_with (at_builtin;refine wpList_append_own _ rfl _ _ 42 rfl (w.heap.size+2) 103 i0 _ 3 24 Tryz.underlying42 hi hz0 hz1 hz2 rfl (by decide) _ _ _ rfl (HO10.out.alloc (.cells #[.string cnm, .int .u8 cty, .bool ck] 103)) ⟨_,0,none⟩ 1 1 (Col.cells ⟨cnm,cty,ck⟩) rfl rfl ?c1 ?c2 ?c3 ?c4 ?c5 ?_)
   case c1=>exact cells_new _ #[.string cnm, .int .u8 cty, .bool ck] _
   case c2=>intro u hu;simp [Col.cells] at hu;rcases hu with rfl|rfl|rfl<;>rfl
   case c3=>unfold maxLen;omega
   case c4=>omega
   case c5=>have:=HP10.out.x.lt;simp;omega
   intro v' w11 hown' hgrow _
   obtain ⟨a',c',rfl⟩:=owns_shape hown'
   have HO11:=Hm hown'
   have HP11:=Hm ((HP10.out.ext ((Ext.refl w10).alloc (.cells #[.string cnm, .int .u8 cty, .bool ck] 103))).kp (Kp.of_grown hgrow) (fun x hx=>(HO10.out.lt x hx).1))
   clear hown' hgrow HO10 HP10
   have x11:=HP11.out.x.cell
   have x11f:=HP11.out.x.frozen
   have x11z:=HP11.out.x.lt
   go_wp2
   go_roundw
   case rel=>exact ⟨k+1,a',c',by omega,by go_num,Hm (HP11.out.set 8 (.slice a' (k+1) c') rfl),Hm (by rw [HTS.out,List.map_append,List.flatten_append];exact owns_set (by simpa using HO11.out) (by show w.heap.size+1<_;omega) _)⟩
   case measure=>simp [intOf];omega
  ·have hkk:k=n:=by omega
   subst hkk
   have HPN:Hid (PS w g [] #[.int .u8 82, .int .u32 0, .int .u64 0, .int .u32 0, .int .u32 o, .int .u32 v, .string nm, .int .u8 id, .slice a k cp, .int .u8 0, .int .u32 0, .int .u32 0, .int .u8 0, .slice none 0 0, .slice none 0 0, .slice none 0 0, .int .u8 0] wr):=Hm (by rw [←hDN.out];exact hP.out)
   have HON:Hid (wr.ownsRow (w.heap.size+2) 103 3 (.slice a k cp) k ((cols.map Col.cells).flatten)):=Hm (by have h:=hO.out;rw [hTN.out] at h;exact h)
   go_upto_region 24 with (fail)
   clear r0 r0z x0 x0z hP hO
   as_aux_lemma=>
    go_wp2_with (first
     |(refine wpList_load_to rfl 49 (.tmp 7) rfl _ _ ?e1 (PS.load HPN.out) ?_;(case e1=>go_simp))
     |(refine wpList_store_to rfl 49 (.tmp 6) (.tmp 93) rfl _ _ ?e1 ?e2 (PS.store HPN.out) ?_;(case e1=>go_simp);(case e2=>go_simp)))
    as_aux_lemma=>
     have hn:=HNL.out
     subst hn
     have hin:(⟨⟨o,v,nm,id,cols⟩,a,cp⟩:RR).in wr:=Sl.of_owns (base:=w.heap.size+2) (e:=103) (by rw [List.length_map];exact HON.out) (col_len cols)
     refine bodyPost_ret (res_pbody (Blk.c17 HPN.out.z) rfl) rfl ?_
     exact PS.done rfl HPN.out (p:=⟨82,0,0,0,⟨⟨o,v,nm,id,cols⟩,a,cp⟩,E0⟩) rfl rfl ⟨hin,EL.at_zero 6 K.rc _⟩ ⟨fun _ b o' e=>by subst e;exact (HON.out.lt b rfl).1,fun h0=>absurd rfl h0,fun h0=>absurd rfl h0,fun h0=>absurd rfl h0⟩
theorem Tryz.infoRRfP:(Tryz.prog.info? 41).map (fun i=>(i.zero,i.size,i.bytes))=some (some (.agg #[.int .u32 0, .int .u32 0]),2,8):=by kernel_rfl
noncomputable def outsF (r:Rf) (b:Bool) (l:List Rf):List Rf:=if b=true then putF r l else l
theorem outsF_in {r x:Rf} {l:List Rf} (h:∃x∈l,¬ x.lt r):outsF r true (l++ [x])=outsF r true l++ [x]:=by
 unfold outsF;rw [if_pos rfl,if_pos rfl,putF_in h]
theorem outsF_eq {r:Rf} {l:List Rf} (h:∀x∈l,x.lt r):outsF r true (l++ [r])=outsF r false l++ [r]:=by
 unfold outsF
 rw [if_pos rfl,if_neg (by simp),putF_all h]
 unfold putF
 rw [if_neg (Rf.irr r),if_pos rfl]
theorem outsF_new {r x:Rf} {l:List Rf} (h:∀x∈l,x.lt r) (hx: ¬ x.lt r) (hn:x≠r):outsF r true (l++ [x])=outsF r false l++ [r]++ [x]:=by
 unfold outsF
 rw [if_pos rfl,if_neg (by simp),putF_all h]
 unfold putF
 rw [if_neg hx,if_neg hn,List.append_assoc];rfl
theorem outsF_end {r:Rf} {l:List Rf} (h:∀x∈l,x.lt r):putF r l=outsF r false l++ [r]:=by
 have:=putF_all (r:=r) (xs:=l) (ys:= []) h
 rw [List.append_nil] at this
 rw [this];rfl
theorem rf_snoc (q:List Rf) (x:Rf):((q++ [x]).map Rf.cells).flatten=(q.map Rf.cells).flatten++x.cells:=by simp
theorem rputf_any (l:List Rf) (r:Rf) (a:Option Addr) (c:Nat) (w:World) (hl:Sl w (.slice a l.length c) 2 (l.map Rf.cells)) (hn:l.length≤1000000000):
 Calls Tryz.prog 28 #[.slice a l.length c, .agg #[.int .u32 r.o, .int .u32 r.v]] w fun e w' =>∃a' n c',e= .returned (.slice a' n c')∧n=(putF r l).length∧w'.ownsRow w.heap.size 41 2 (.slice a' n c') n ((putF r l).map Rf.cells).flatten∧Ext w w' :=by
 obtain ⟨i0,hi,hz0,hz1,hz2⟩:=info_parts Tryz.infoRRfP
 have HL:=Hm hl
 clear hl
 go_enter Tryz.func28,Tryz.ntmps28
 go_wp2
 go_loopw [5,6,7] (fun v pb i wr=>∃(k:Nat) (b:Bool) (q:List Rf),k≤l.length∧i= .int .i64 k∧pb= .bool b∧Hid (q=outsF r b (l.take k))∧Hid (b=true→∃x∈l.take k,¬ x.lt r)∧Hid (b=false→∀x∈l.take k,x.lt r)∧q.length≤k+b.toNat∧Hid (wr.ownsRow (w.heap.size+1) 41 2 v q.length (q.map Rf.cells).flatten)∧Hid (Ext (w.alloc (.cells #[.int .u32 r.o, .int .u32 r.v] 41)) wr)) (fun _ _ i _=>l.length - (intOf i).toNat)
 case atStart=>exact ⟨0,false, [],Nat.zero_le _,rfl,rfl,Hm rfl,Hm (fun h=>by cases h),Hm (fun _ x hx=>by simp at hx),Nat.le_refl _,Hm (World.ownsRow_nil _ _ _ _),Hm (Ext.refl _)⟩
 case round=>
  obtain ⟨k,b,q,hk,rfl,rfl,hq,hB1,hB0,hql,hown,hE⟩:=hrel
  have HEW:=Hm (((Ext.refl w).alloc (.cells #[.int .u32 r.o, .int .u32 r.v] 41)).trans hE.out)
  have HBB:=Hm ((Blk.new w #[.int .u32 r.o, .int .u32 r.v] 41).ext hE.out)
  have g0:=HBB.out.cell
  have z0:=HBB.out.lt
  have HE3:Hid (Ext wr wr):=Hm (Ext.refl _)
  by_cases hlt:k<l.length
  ·obtain ⟨b0,o,rfl,hb,hx⟩:=HL.out.at_ (i:=k) (by simpa using hlt)
   have HF:=Hm (fun W (h:Ext w W)=>Rf.at_ hlt hx hb h)
   obtain ⟨f0,f1⟩:=HF.out _ HEW.out
   have hbw:b0<wr.heap.size:=Nat.lt_of_lt_of_le hb HEW.out.size
   have HTK:Hid (l.take (k+1)=l.take k++ [l[k]]):=Hm (List.take_succ_eq_append_getElem hlt)
   have HB:=Hm hb
   obtain ⟨p,hp⟩:∃p,p=l[k]:=⟨_,rfl⟩
   rw [←hp] at f0 f1 HF HTK
   clear hx hp hb
   have hpl:(Rf.cells p).length=2:=rfl
   have hrl:(Rf.cells r).length=2:=rfl
   have hq1:b.toNat≤1:=by cases b<;>decide
   cases b with
   |true=>
    have HO:=Hm (show q++ [p]=outsF r true (l.take (k+1)) from by rw [HTK.out,outsF_in (hB1.out rfl),hq.out])
    have HBX:=Hm (show∃x∈l.take (k+1),¬ x.lt r from by
     obtain ⟨x,h1,h2⟩:=hB1.out rfl
     exact ⟨x,by rw [HTK.out];exact List.mem_append_left _ h1,h2⟩)
    have hO3:=hown
    have hX3:=hE
    clear hq hB1 hB0
    go_wp2
    refine wp_region_head 10 (fun w' =>Ext (wr) w'∧(∀b o,b<(wr).heap.size→w'.cell? ⟨b,o,none⟩=(wr).cell? ⟨b,o,none⟩)∧(∀b o,b<(wr).heap.size→w'.frozen? ⟨b,o,none⟩=(wr).frozen? ⟨b,o,none⟩)) (by kernel_rfl) (by decide) ?_
    have hA0:Hid ((fun w' =>Ext (wr) w'∧(∀b o,b<(wr).heap.size→w'.cell? ⟨b,o,none⟩=(wr).cell? ⟨b,o,none⟩)∧(∀b o,b<(wr).heap.size→w'.frozen? ⟨b,o,none⟩=(wr).frozen? ⟨b,o,none⟩)) wr.drew):=held_of (by exact eX)
    refine HG.on 0 14 hA0.out ?_
    try simp only [Act.put,List.setIfInBounds_toArray,List.set_cons_zero,List.set_cons_succ]
    refine HG.on 1 15 hA0.out ?_
    try simp only [Act.put,List.setIfInBounds_toArray,List.set_cons_zero,List.set_cons_succ]
    refine HG.on 2 16 hA0.out ?_
    try simp only [Act.put,List.setIfInBounds_toArray,List.set_cons_zero,List.set_cons_succ]
    refine wpHd_takeD (i:=3) (d:=some 17) (v:=undef) rfl rfl (by kernel_rfl) (by kernel_rfl) (by kernel_rfl) (fun _ _ _ h=>h) (Or.inr ⟨by rfl,rfl⟩) hA0.out ?_
    try simp only [Act.put,List.setIfInBounds_toArray,List.set_cons_zero,List.set_cons_succ]
    refine wpHd_takeD (i:=4) (d:=some 18) (v:=undef) rfl rfl (by kernel_rfl) (by kernel_rfl) (by kernel_rfl) (fun _ _ _ h=>h) (Or.inr ⟨by rfl,rfl⟩) hA0.out ?_
    try simp only [Act.put,List.setIfInBounds_toArray,List.set_cons_zero,List.set_cons_succ]
    refine wpHd_takeD (i:=5) (d:=some 19) (v:=undef) rfl rfl (by kernel_rfl) (by kernel_rfl) (by kernel_rfl) (fun _ _ _ h=>h) (Or.inr ⟨by rfl,rfl⟩) hA0.out ?_
    try simp only [Act.put,List.setIfInBounds_toArray,List.set_cons_zero,List.set_cons_succ]
    refine wpHd_takeD (i:=6) (d:=some 20) (v:=undef) rfl rfl (by kernel_rfl) (by kernel_rfl) (by kernel_rfl) (fun _ _ _ h=>h) (Or.inr ⟨by rfl,rfl⟩) hA0.out ?_
    try simp only [Act.put,List.setIfInBounds_toArray,List.set_cons_zero,List.set_cons_succ]
    refine wpHd_takeD (i:=7) (d:=some 21) (v:=undef) rfl rfl (by kernel_rfl) (by kernel_rfl) (by kernel_rfl) (fun _ _ _ h=>h) (Or.inr ⟨by rfl,rfl⟩) hA0.out ?_
    try simp only [Act.put,List.setIfInBounds_toArray,List.set_cons_zero,List.set_cons_succ]
    refine wpHd_takeD (i:=8) (d:=some 22) (v:=undef) rfl rfl (by kernel_rfl) (by kernel_rfl) (by kernel_rfl) (fun _ _ _ h=>h) (Or.inr ⟨by rfl,rfl⟩) hA0.out ?_
    try simp only [Act.put,List.setIfInBounds_toArray,List.set_cons_zero,List.set_cons_succ]
    refine wpHd_takeD (i:=9) (d:=some 23) (v:=undef) rfl rfl (by kernel_rfl) (by kernel_rfl) (by kernel_rfl) (fun _ _ _ h=>h) (Or.inr ⟨by rfl,rfl⟩) hA0.out ?_
    try simp only [Act.put,List.setIfInBounds_toArray,List.set_cons_zero,List.set_cons_succ]
    refine wpHd_tail (by kernel_rfl) ?_
    simp only [List.drop_succ_cons,List.drop_zero]
    clear hA0 g0
    go_wp2_with (at_builtin;refine wpList_append_own _ rfl _ _ 37 rfl (w.heap.size+1) 41 i0 _ 2 8 Tryz.underlying37 hi hz0 hz1 hz2 rfl (by decide) _ _ _ rfl ((owns_ext hO3.out (by exact eX))) ⟨_,0,none⟩ 1 1 p.cells rfl rfl (cells_new _ #[.int .u32 p.o, .int .u32 p.v] _) (by intro u hu;simp [Rf.cells] at hu;rcases hu with rfl|rfl<;>rfl) (by unfold maxLen;omega) (by omega) (by have:=HEW.out.size;have:=HE3.out.size;simp;omega) ?_)
    intro v' w4 hown' hgrow _
    have HX4:Hid (Ext (w.alloc (.cells #[.int .u32 r.o, .int .u32 r.v] 41)) w4):=Hm (Below.grown ((hX3.out.drew).alloc (.cells #[.int .u32 p.o, .int .u32 p.v] 41)) hgrow (by have:=hX3.out.size;simp at this⊢;omega) (fun g hg=>by have:=(hO3.out.lt g hg).1;simp;omega))
    have HO4:=Hm hown'
    clear hown' hgrow
    go_wp2
    go_roundw
    case rel=>exact ⟨k+1,true,q++ [p],by omega,by go_num,rfl,HO,Hm (fun _=>HBX.out),Hm (fun h=>by cases h),by simp at hql⊢;omega,Hm (by rw [rf_snoc,List.length_append];exact HO4.out),HX4⟩
    case measure=>simp [intOf];omega
   |false=>
    have HAH:=Hm (fun W=>rahead_any p.o p.v r.o r.v W)
    have hNq:=fun w=>neq_rref p.o p.v r.o r.v w
    by_cases hlr:p.lt r
    ·have hab:aheadB p.o p.v r.o r.v=true:=decide_eq_true hlr
     rw [hab] at HAH
     have HO:=Hm (show q++ [p]=outsF r false (l.take (k+1)) from by rw [HTK.out,hq.out];rfl)
     have HBX:=Hm (show∀x∈l.take (k+1),x.lt r from by
      intro x hx
      rw [HTK.out] at hx
      rcases List.mem_append.1 hx with h|h
      ·exact hB0.out rfl x h
      ·obtain rfl:=List.mem_singleton.1 h;exact hlr)
     clear hq hB1 hB0 hab hlr hNq
     go_wp2
     go_region_held3 (fun w' =>Ext (wr) w'∧(∀b o,b<(wr).heap.size→w'.cell? ⟨b,o,none⟩=(wr).cell? ⟨b,o,none⟩)∧(∀b o,b<(wr).heap.size→w'.frozen? ⟨b,o,none⟩=(wr).frozen? ⟨b,o,none⟩)) ((exact held_of (by exact eX))) (first|(go_at_call 62;refine (HAH.out _).mono ?_;rintro e w3 ⟨rfl,hb3⟩;have HE3:=Hm (show Ext wr w3 by exact eX)))
     clear hb3 g0
     have hO3:=Hm (owns_ext hown.out HE3.out)
     have hX3:Hid (Ext (w.alloc (.cells #[.int .u32 r.o, .int .u32 r.v] 41)) w3):=Hm (hE.out.trans HE3.out)
     go_wp2_with (at_builtin;refine wpList_append_own _ rfl _ _ 37 rfl (w.heap.size+1) 41 i0 _ 2 8 Tryz.underlying37 hi hz0 hz1 hz2 rfl (by decide) _ _ _ rfl ((owns_ext hO3.out (by exact eX))) ⟨_,0,none⟩ 1 1 p.cells rfl rfl (cells_new _ #[.int .u32 p.o, .int .u32 p.v] _) (by intro u hu;simp [Rf.cells] at hu;rcases hu with rfl|rfl<;>rfl) (by unfold maxLen;omega) (by omega) (by have:=HEW.out.size;have:=HE3.out.size;simp;omega) ?_)
     intro v' w4 hown' hgrow _
     have HX4:Hid (Ext (w.alloc (.cells #[.int .u32 r.o, .int .u32 r.v] 41)) w4):=Hm (Below.grown ((hX3.out).alloc _) hgrow (by have:=hX3.out.size;simp at this⊢;omega) (fun g hg=>by have:=(hO3.out.lt g hg).1;simp;omega))
     have HO4:=Hm hown'
     clear hown' hgrow
     go_wp2
     go_roundw
     case rel=>exact ⟨k+1,false,q++ [p],by omega,by go_num,rfl,HO,Hm (fun h=>by cases h),Hm (fun _=>HBX.out),by simp at hql⊢;omega,Hm (by rw [rf_snoc,List.length_append];exact HO4.out),HX4⟩
     case measure=>simp [intOf];omega
    ·have hab:aheadB p.o p.v r.o r.v=false:=decide_eq_false hlr
     rw [hab] at HAH
     have HNL:=Hm hlr
     have HBX:=Hm (show∃x∈l.take (k+1),¬ x.lt r from ⟨p,by rw [HTK.out];simp,hlr⟩)
     by_cases hpr:p=r
     ·have HO:=Hm (show q++ [p]=outsF r true (l.take (k+1)) from by rw [HTK.out,hpr,outsF_eq (hB0.out rfl),hq.out])
      have hrB:rfB ⟨p.o,p.v⟩ ⟨r.o,r.v⟩=true:=rfB_true.2 (by rw [hpr])
      rw [hrB] at hNq
      clear hq hB1 hB0 hab hlr hpr hrB
      go_wp2
      go_region_held3 (fun w' =>Ext (wr) w'∧(∀b o,b<(wr).heap.size→w'.cell? ⟨b,o,none⟩=(wr).cell? ⟨b,o,none⟩)∧(∀b o,b<(wr).heap.size→w'.frozen? ⟨b,o,none⟩=(wr).frozen? ⟨b,o,none⟩)) ((exact held_of (by exact eX))) (first|(go_at_call 62;refine (HAH.out _).mono ?_;rintro e w3 ⟨rfl,hb3⟩;have HE3:=Hm (show Ext wr w3 by exact eX)))
      clear hb3
      have hO3:=Hm (owns_ext hown.out HE3.out)
      have hX3:Hid (Ext (w.alloc (.cells #[.int .u32 r.o, .int .u32 r.v] 41)) w3):=Hm (hE.out.trans HE3.out)
      have hbw3:b0<w3.heap.size:=Nat.lt_of_lt_of_le hbw HE3.out.size
      have z1:=(HBB.out.ext HE3.out).lt
      go_wp2
      go_region_held3 (fun w' =>Ext (w3) w'∧(∀b o,b<(w3).heap.size→w'.cell? ⟨b,o,none⟩=(w3).cell? ⟨b,o,none⟩)∧(∀b o,b<(w3).heap.size→w'.frozen? ⟨b,o,none⟩=(w3).frozen? ⟨b,o,none⟩)) ((exact held_of (by exact eX))) (fail)
      go_wp2_with (at_builtin;refine wpList_append_own _ rfl _ _ 37 rfl (w.heap.size+1) 41 i0 _ 2 8 Tryz.underlying37 hi hz0 hz1 hz2 rfl (by decide) _ _ _ rfl ((owns_ext hO3.out (by exact eX))) ⟨_,0,none⟩ 1 1 p.cells rfl rfl (cells_new _ #[.int .u32 p.o, .int .u32 p.v] _) (by intro u hu;simp [Rf.cells] at hu;rcases hu with rfl|rfl<;>rfl) (by unfold maxLen;omega) (by omega) (by have:=HEW.out.size;have:=HE3.out.size;simp;omega) ?_)
      intro v' w4 hown' hgrow _
      have HX4:Hid (Ext (w.alloc (.cells #[.int .u32 r.o, .int .u32 r.v] 41)) w4):=Hm (Below.grown ((hX3.out.drew).alloc (.cells #[.int .u32 p.o, .int .u32 p.v] 41)) hgrow (by have:=hX3.out.size;simp at this⊢;omega) (fun g hg=>by have:=(hO3.out.lt g hg).1;simp;omega))
      have HO4:=Hm hown'
      clear hown' hgrow
      go_wp2
      go_roundw
      case rel=>exact ⟨k+1,true,q++ [p],by omega,by go_num,rfl,HO,Hm (fun _=>HBX.out),Hm (fun h=>by cases h),by simp at hql⊢;omega,Hm (by rw [rf_snoc,List.length_append];exact HO4.out),HX4⟩
      case measure=>simp [intOf];omega
     ·have HO:=Hm (show q++ [r]++ [p]=outsF r true (l.take (k+1)) from by rw [HTK.out,outsF_new (hB0.out rfl) hlr hpr,hq.out])
      have hrB:rfB ⟨p.o,p.v⟩ ⟨r.o,r.v⟩=false:=rfB_false.2 hpr
      rw [hrB] at hNq
      clear hq hB1 hB0 hab hlr hpr hrB
      go_wp2
      go_region_held3 (fun w' =>Ext (wr) w'∧(∀b o,b<(wr).heap.size→w'.cell? ⟨b,o,none⟩=(wr).cell? ⟨b,o,none⟩)∧(∀b o,b<(wr).heap.size→w'.frozen? ⟨b,o,none⟩=(wr).frozen? ⟨b,o,none⟩)) ((exact held_of (by exact eX))) (first|(go_at_call 62;refine (HAH.out _).mono ?_;rintro e w3 ⟨rfl,hb3⟩;have HE3:=Hm (show Ext wr w3 by exact eX)))
      clear hb3
      have hO3:=Hm (owns_ext hown.out HE3.out)
      have hX3:Hid (Ext (w.alloc (.cells #[.int .u32 r.o, .int .u32 r.v] 41)) w3):=Hm (hE.out.trans HE3.out)
      have hbw3:b0<w3.heap.size:=Nat.lt_of_lt_of_le hbw HE3.out.size
      have z1:=(HBB.out.ext HE3.out).lt
      go_wp2
      go_region_held3 (fun w' =>Ext (w3) w'∧(∀b o,b<(w3).heap.size→w'.cell? ⟨b,o,none⟩=(w3).cell? ⟨b,o,none⟩)∧(∀b o,b<(w3).heap.size→w'.frozen? ⟨b,o,none⟩=(w3).frozen? ⟨b,o,none⟩)) ((exact held_of (by exact eX))) (fail)
      go_wp2_with (at_builtin;refine wpList_append_own _ rfl _ _ 37 rfl (w.heap.size+1) 41 i0 _ 2 8 Tryz.underlying37 hi hz0 hz1 hz2 rfl (by decide) _ _ _ rfl ((owns_ext hO3.out (by exact eX))) ⟨_,0,none⟩ 1 1 r.cells rfl rfl (cells_new _ #[.int .u32 r.o, .int .u32 r.v] _) (by intro u hu;simp [Rf.cells] at hu;rcases hu with rfl|rfl<;>rfl) (by unfold maxLen;omega) (by omega) (by have:=HEW.out.size;have:=HE3.out.size;simp;omega) ?_)
      intro v' w4 hown' hgrow _
      have HX4:Hid (Ext (w.alloc (.cells #[.int .u32 r.o, .int .u32 r.v] 41)) w4):=Hm (Below.grown ((hX3.out.drew).alloc (.cells #[.int .u32 r.o, .int .u32 r.v] 41)) hgrow (by have:=hX3.out.size;simp at this⊢;omega) (fun g hg=>by have:=(hO3.out.lt g hg).1;simp;omega))
      have HO4:=Hm hown'
      clear g0 z1 f0 f1
      obtain ⟨f0,f1⟩:=HF.out w4 (((Ext.refl w).alloc (.cells #[.int .u32 r.o, .int .u32 r.v] 41)).trans HX4.out)
      have hbw4:b0<w4.heap.size:=Nat.lt_of_lt_of_le HB.out (((Ext.refl w).alloc (.cells #[.int .u32 r.o, .int .u32 r.v] 41)).trans HX4.out).size
      have hz4:w.heap.size+1≤w4.heap.size:=by have:=HX4.out.size;simpa using this
      clear hown' hgrow
      go_wp2_with ((at_builtin;refine wpList_append_own _ rfl _ _ 37 rfl (w.heap.size+1) 41 i0 _ 2 8 Tryz.underlying37 hi hz0 hz1 hz2 rfl (by decide) _ _ _ rfl ((owns_ext HO4.out (by exact eX))) ⟨_,0,none⟩ 1 1 p.cells rfl rfl (cells_new _ #[.int .u32 p.o, .int .u32 p.v] _) (by intro u hu;simp [Rf.cells] at hu;rcases hu with rfl|rfl<;>rfl) (by unfold maxLen;omega) (by omega) (by simp;omega) ?_))
      intro v' w5 hown' hgrow _
      have HX5:Hid (Ext (w.alloc (.cells #[.int .u32 r.o, .int .u32 r.v] 41)) w5):=Hm (Below.grown ((HX4.out).alloc (.cells #[.int .u32 p.o, .int .u32 p.v] 41)) hgrow (by have:=HX4.out.size;simp at this⊢;omega) (fun g hg=>by have:=(HO4.out.lt g hg).1;simp;omega))
      have HO5:=Hm hown'
      clear hown' hgrow
      go_wp2
      go_roundw
      case rel=>exact ⟨k+1,true,q++ [r]++ [p],by omega,by go_num,rfl,HO,Hm (fun _=>HBX.out),Hm (fun h=>by cases h),by simp at hql⊢;omega,Hm (by rw [List.length_append,List.length_append,rf_snoc,rf_snoc,List.append_assoc];exact HO5.out),HX5⟩
      case measure=>simp [intOf];omega
  ·have hkk:k=l.length:=by omega
   subst hkk
   have hrl:(Rf.cells r).length=2:=rfl
   rw [List.take_length] at hq hB1 hB0
   have hq1:b.toNat≤1:=by cases b<;>decide
   cases b with
   |true=>
    have HO:Hid (q=putF r l):=Hm (by rw [hq.out];exact if_pos rfl)
    obtain ⟨a',c',rfl⟩:=owns_shape hown.out
    clear hq hB1 hB0
    go_wp2
    go_ret
    exact ⟨a',q.length,c',rfl,by rw [HO.out],by rw [←HO.out];exact owns_base hown.out (by omega),HEW.out⟩
   |false=>
    have HO:Hid (q++ [r]=putF r l):=Hm (by rw [outsF_end (hB0.out rfl),hq.out])
    have hX3:=hE
    clear hq hB1 hB0
    go_wp2_with (at_builtin;refine wpList_append_own _ rfl _ _ 37 rfl (w.heap.size+1) 41 i0 _ 2 8 Tryz.underlying37 hi hz0 hz1 hz2 rfl (by decide) _ _ _ rfl ((owns_ext hown.out (by exact eX))) ⟨_,0,none⟩ 1 1 r.cells rfl rfl (cells_new _ #[.int .u32 r.o, .int .u32 r.v] _) (by intro u hu;simp [Rf.cells] at hu;rcases hu with rfl|rfl<;>rfl) (by unfold maxLen;omega) (by omega) (by have:=HEW.out.size;have:=HE3.out.size;simp;omega) ?_)
    intro v' w4 hown' hgrow _
    have HX4:Hid (Ext (w.alloc (.cells #[.int .u32 r.o, .int .u32 r.v] 41)) w4):=Hm (Below.grown ((hX3.out).alloc (.cells #[.int .u32 r.o, .int .u32 r.v] 41)) hgrow (by have:=hX3.out.size;simp at this⊢;omega) (fun g hg=>by have:=(hown.out.lt g hg).1;simp;omega))
    obtain ⟨a',c',rfl⟩:=owns_shape hown'
    have HO4:=Hm hown'
    have HEW4:=Hm (((Ext.refl w).alloc (.cells #[.int .u32 r.o, .int .u32 r.v] 41)).trans HX4.out)
    clear hown' hgrow
    go_wp2
    go_ret
    exact ⟨a',q.length+1,c',rfl,by rw [←HO.out];simp,by rw [←HO.out,rf_snoc];exact owns_base HO4.out (by omega),HEW4.out⟩
end Go.Proofs.YtgmphpccpfaapaaGreatDoor
