/-
A value of its spelling: the reference's Read.
-/
import Derived.Test.YtgmphpccpfaapaaGreatDoorP37
import Derived.Test.YtgmphpccpfaapaaGreatDoorP36
import Derived.Test.YtgmphpccpfaapaaGreatDoorP4
import Derived.Test.YtgmphpccpfaapaaGreatDoorP19
import Derived.Test.YtgmphpccpfaapaaGreatDoorP30
import Derived.Test.YtgmphpccpfaapaaGreatDoorP24
import Derived.Test.YtgmphpccpfaapaaGreatDoorP31
import Derived.Test.YtgmphpccpfaapaaGreatDoorP11
set_option maxRecDepth 100000
set_option maxHeartbeats 16000000
namespace Go.Proofs.YtgmphpccpfaapaaGreatDoor
open Go.RowKit
theorem res_read {W:World} {g:Nat} {v0 v1 v2 v3 v4:Value} {tm:Array Value} (h:Blk W g #[v0,v1,v2,v3,v4] 99) (ht:tm.getD 4 undef= .pointer (some ⟨g,0,none⟩)) (ht5:tm.getD 5 undef= .int .i64 0):
 (results Tryz.f113 tm).run Tryz.prog W= .ok (.tuple #[.agg #[v0,v1,v2,v3,v4], .int .i64 0]) W:=by
 have c:=h.cell
 have c0:=c 0
 have c1:=c 1
 have c2:=c 2
 have c3:=c 3
 have c4:=c 4
 clear c h
 simp at c0 c1 c2 c3 c4
 rw [Array.getD_eq_getD_getElem?] at ht ht5
 simp [results,Tryz.results113,go_sem,ht,ht5,c0,c1,c2,c3,c4]
theorem Blk.fiveP {W:World} {b:Nat} {u0 u1 u2 u3 u4 v0 v1 v2 v3 v4:Value} {T:TypeId} (h:Blk W b #[u0,u1,u2,u3,u4] T):
 Blk (((((W.setCell ⟨b,0,none⟩ v0).setCell ⟨b,1,none⟩ v1).setCell ⟨b,2,none⟩ v2).setCell ⟨b,3,none⟩ v3).setCell ⟨b,4,none⟩ v4) b #[v0,v1,v2,v3,v4] T:=((((h.set 0 _).set 1 _).set 2 _).set 3 _).set 4 _
theorem Ext.setNew {w W:World} (h:Ext w W) {p:Addr} (hb:w.heap.size≤p.block) (u:Value):Ext w (W.setCell p u):=
 (Kp.set (S:=fun k=>k=p.block) p u rfl).ext h (fun x hx _=>by have h2:x=p.block:=hx;omega)
theorem rread_any (ty n:Int) (x y:Nat) (s:ByteArray) (w:World) (h:rightV ty n x y s=0) (hn: -9223372036854775808≤n∧n≤9223372036854775807) (hx:x<2 ^ 64) (hy:y<2 ^ 64):
 Calls Tryz.prog 113 #[.int .u8 ty, .string (strOfNums (spellT ty n x y s))] w fun e w' =>e= .returned (.tuple #[.agg #[.int .u8 ty, .int .i64 n, .int .u64 x, .int .u64 y, .string s], .int .i64 0])∧Ext w w' :=by
 obtain ⟨t1,t2,hs,z1,z2,z3,z4,z5, -⟩:=right_zero h
 have HSP:=Hm (fun W=>show Calls Tryz.prog 141 #[.agg #[.int .u8 ty, .int .i64 n, .int .u64 x, .int .u64 y, .string s]] W (fun e w' =>e= .returned (.tuple #[.string (strOfNums (spellT ty n x y s)), .int .i64 0])∧Ext W w') from by
  have h3:=rspell_any ty n x y s W hn hx hy (by omega)
  rw [h,show spellL ty n x y s=spellT ty n x y s from if_neg (by rw [h];simp)] at h3
  exact h3)
 have HIT:=Hm (fun W=>rinteger_any n W hn)
 have HNX:=Hm (fun W=>rnumber19_any (octs x 8) W (octs_isB x 8) (by rw [octs_len];omega))
 have HNY:=Hm (fun W=>rnumber19_any (octs y 8) W (octs_isB y 8) (by rw [octs_len];omega))
 rw [numL_octs 8 (x:Int) (by omega) (by omega)] at HNX
 rw [numL_octs 8 (y:Int) (by omega) (by omega)] at HNY
 obtain ⟨S,hS⟩:∃S,S=strOfNums (spellT ty n x y s):=⟨_,rfl⟩
 rw [←hS] at HSP⊢
 have HS:=Hm hS
 clear hS h
 go_enter Tryz.func113,Tryz.ntmps113
 go_upto_block 0 with (fail)
 go_cut [7] (fun p wx=>p= .bool true∧Hid (Blk wx (w.heap.size+1) #[.int .u8 ty, .int .i64 n, .int .u64 x, .int .u64 y, .string s] 99)∧Hid (Blk wx w.heap.size #[.int .u8 0, .int .i64 0, .int .u64 0, .int .u64 0, .string ByteArray.empty] 99)∧Hid (Ext w wx))
 case first=>
  as_aux_lemma=>
   by_cases q1:ty=1
   ·subst q1
    obtain rfl:x=0:=by have:=z3 (by omega) (by omega);omega
    obtain rfl:y=0:=by have:=z4 (by omega);omega
    obtain rfl:s=ByteArray.empty:=(size_zero s).2 (z5 (by omega))
    rcases z1 rfl with rfl|rfl
    ·obtain rfl:S=⟨#[102]⟩:=HS.out
     clear HIT HNX HNY
     go_wp2
     go_meet
     case rel=>exact ⟨rfl,Hm (Blk.new' (w:=w.alloc (.cells #[.int .u8 0, .int .i64 0, .int .u64 0, .int .u64 0, .string ByteArray.empty] 99)) (b:=w.heap.size+1) _ 99 (by simp)),Hm ((Blk.new w #[.int .u8 0, .int .i64 0, .int .u64 0, .int .u64 0, .string ByteArray.empty] 99).alloc _),Hm (((Ext.refl w).alloc _).alloc _)⟩
    ·obtain rfl:S=⟨#[116]⟩:=HS.out
     clear HIT HNX HNY
     go_wp2
     go_meet
     case rel=>exact ⟨rfl,Hm (Blk.new' (w:=w.alloc (.cells #[.int .u8 0, .int .i64 0, .int .u64 0, .int .u64 0, .string ByteArray.empty] 99)) (b:=w.heap.size+1) _ 99 (by simp)),Hm ((Blk.new w #[.int .u8 0, .int .i64 0, .int .u64 0, .int .u64 0, .string ByteArray.empty] 99).alloc _),Hm (((Ext.refl w).alloc _).alloc _)⟩
   by_cases q2:ty=2
   ·subst q2
    obtain rfl:x=0:=by have:=z3 (by omega) (by omega);omega
    obtain rfl:y=0:=by have:=z4 (by omega);omega
    obtain rfl:s=ByteArray.empty:=(size_zero s).2 (z5 (by omega))
    have hS:S=strOfNums (litL (Lib.itoa n)):=HS.out
    rw [←hS] at HIT
    clear hS HNX HNY
    go_wp2_with (go_at_call 140;refine (HIT.out _).mono ?_;rintro e w3 ⟨rfl,rfl⟩)
    go_meet
    case rel=>exact ⟨rfl,Hm (Blk.new' (w:=w.alloc (.cells #[.int .u8 0, .int .i64 0, .int .u64 0, .int .u64 0, .string ByteArray.empty] 99)) (b:=w.heap.size+1) _ 99 (by simp)),Hm ((Blk.new w #[.int .u8 0, .int .i64 0, .int .u64 0, .int .u64 0, .string ByteArray.empty] 99).alloc _),Hm (((Ext.refl w).alloc _).alloc _)⟩
   obtain rfl:n=0:=z2 (by omega)
   by_cases q3:ty=3
   ·subst q3
    obtain rfl:y=0:=by have:=z4 (by omega);omega
    obtain rfl:s=ByteArray.empty:=(size_zero s).2 (z5 (by omega))
    have hS:S=strOfNums (octs x 8):=HS.out
    have hz:S.size=8:=by rw [hS,strO_size,octs_len]
    rw [←hS] at HNX
    clear hS HIT HNY
    go_wp2_with (go_at_call 50;refine (HNX.out _).mono ?_;rintro e w3 ⟨rfl,rfl⟩)
    go_meet
    case rel=>exact ⟨rfl,Hm (Blk.new' (w:=w.alloc (.cells #[.int .u8 0, .int .i64 0, .int .u64 0, .int .u64 0, .string ByteArray.empty] 99)) (b:=w.heap.size+1) _ 99 (by simp)),Hm ((Blk.new w #[.int .u8 0, .int .i64 0, .int .u64 0, .int .u64 0, .string ByteArray.empty] 99).alloc _),Hm (((Ext.refl w).alloc _).alloc _)⟩
   by_cases q4:ty=4
   ·subst q4
    obtain rfl:s=ByteArray.empty:=(size_zero s).2 (z5 (by omega))
    have hS:S=strOfNums (octs x 8++octs y 8):=HS.out
    have hz:S.size=16:=by rw [hS,strO_size,List.length_append,octs_len,octs_len]
    have e1:S.extract 0 8=strOfNums (octs x 8):=by rw [hS];have:=strO_head (octs x 8) (octs y 8);rwa [octs_len] at this
    have e2:S.extract 8 16=strOfNums (octs y 8):=by rw [hS];have:=strO_tail (octs x 8) (octs y 8) (n:=16) (by rw [octs_len,octs_len]);rwa [octs_len] at this
    rw [←e1] at HNX
    rw [←e2] at HNY
    clear hS HIT e1 e2
    go_upto_region 20 with (fail)
    obtain ⟨w2,hw2⟩:∃W,W=(w.alloc (.cells #[.int .u8 0, .int .i64 0, .int .u64 0, .int .u64 0, .string ⟨#[]⟩] 99)).alloc (.cells #[.int .u8 4, .int .i64 0, .int .u64 0, .int .u64 0, .string ⟨#[]⟩] 99):=⟨_,rfl⟩
    have H7:Hid (Blk w2 (w.heap.size+1) #[.int .u8 4, .int .i64 0, .int .u64 0, .int .u64 0, .string ByteArray.empty] 99):=Hm (by rw [hw2];exact (Blk.new' (w:=w.alloc (.cells #[.int .u8 0, .int .i64 0, .int .u64 0, .int .u64 0, .string ByteArray.empty] 99)) (b:=w.heap.size+1) _ 99 (by simp)))
    have H6:Hid (Blk w2 w.heap.size #[.int .u8 0, .int .i64 0, .int .u64 0, .int .u64 0, .string ByteArray.empty] 99):=Hm (by rw [hw2];exact ((Blk.new w #[.int .u8 0, .int .i64 0, .int .u64 0, .int .u64 0, .string ByteArray.empty] 99).alloc _))
    have HE2:Hid (Ext w w2):=Hm (by rw [hw2];exact (((Ext.refl w).alloc _).alloc _))
    rw [←hw2]
    clear hw2
    have k7:=H7.out.cell
    have f7:=H7.out.frozen
    have z7:=H7.out.lt
    have hA0:Hid (True∧True∧True):=Hm ⟨trivial,trivial,trivial⟩
    refine wp_region_head 8 (fun _=>True∧True∧True) (by kernel_rfl) (by decide) ?_
    refine HG.on 0 53 hA0.out ?_
    try simp only [Act.put,List.setIfInBounds_toArray,List.set_cons_zero,List.set_cons_succ]
    refine HG.on 3 56 hA0.out ?_
    try simp only [Act.put,List.setIfInBounds_toArray,List.set_cons_zero,List.set_cons_succ]
    refine wpHd_two (i:=1) (j:=4) rfl rfl rfl rfl (by kernel_rfl) (fun KK hK=> ?_) (fun KK hK=> ?_)
    ·go_simp
     refine hK.out _ _ hA0.out (fun hA=> ?_)
     clear hK KK hA
     refine wpHd_two (i:=2) (j:=4) rfl rfl rfl rfl (by kernel_rfl) (fun KK hK=> ?_) (fun KK hK=> ?_)
     ·go_simp
      refine (HNX.out _).mono ?_
      rintro e w3 ⟨rfl,rfl⟩
      refine hK.out _ _ hA0.out (fun hA=> ?_)
      clear hK KK hA
      refine HG.on 6 59 hA0.out ?_
      try simp only [Act.put,List.setIfInBounds_toArray,List.set_cons_zero,List.set_cons_succ]
      refine wpHd_one (i:=4) rfl rfl (by kernel_rfl) (fun KK hK=> ?_)
      go_simp
      refine hK.out _ _ hA0.out (fun hA=> ?_)
      clear hK KK hA
      (refine wpHd_one (i:=5) rfl rfl (by kernel_rfl) (fun KK hK=> ?_);go_simp;refine (HNY.out _).mono ?_;rintro e w4 ⟨rfl,rfl⟩;refine hK.out _ _ hA0.out (fun hA=> ?_);clear hK KK hA;refine wpHd_one (i:=7) rfl rfl (by kernel_rfl) (fun KK hK=> ?_);go_simp;refine hK.out _ _ hA0.out (fun hA=> ?_);clear hK KK hA;refine wpHd_tail (by kernel_rfl) ?_;simp only [List.drop_succ_cons,List.drop_zero];go_wp2;go_meet;(case rel=>exact ⟨rfl,Hm (by exact (H7.out.drew.set 2 (.int .u64 x)).set 3 (.int .u64 y)),Hm ((H6.out.drew.other _ _ (by simp)).other _ _ (by simp)),Hm ((HE2.out.drew.setNew (by simp) _).setNew (by simp) _)⟩))
     ·go_simp
      refine hK.out _ _ hA0.out (fun hA=> ?_)
      clear hK KK hA
      refine wpHd_one (i:=2) rfl rfl (by kernel_rfl) (fun KK hK=> ?_)
      go_simp
      refine (HNX.out _).mono ?_
      rintro e w3 ⟨rfl,rfl⟩
      refine hK.out _ _ hA0.out (fun hA=> ?_)
      clear hK KK hA
      refine HG.on 6 59 hA0.out ?_
      try simp only [Act.put,List.setIfInBounds_toArray,List.set_cons_zero,List.set_cons_succ]
      (refine wpHd_one (i:=5) rfl rfl (by kernel_rfl) (fun KK hK=> ?_);go_simp;refine (HNY.out _).mono ?_;rintro e w4 ⟨rfl,rfl⟩;refine hK.out _ _ hA0.out (fun hA=> ?_);clear hK KK hA;refine wpHd_one (i:=7) rfl rfl (by kernel_rfl) (fun KK hK=> ?_);go_simp;refine hK.out _ _ hA0.out (fun hA=> ?_);clear hK KK hA;refine wpHd_tail (by kernel_rfl) ?_;simp only [List.drop_succ_cons,List.drop_zero];go_wp2;go_meet;(case rel=>exact ⟨rfl,Hm (by exact (H7.out.drew.set 2 (.int .u64 x)).set 3 (.int .u64 y)),Hm ((H6.out.drew.other _ _ (by simp)).other _ _ (by simp)),Hm ((HE2.out.drew.setNew (by simp) _).setNew (by simp) _)⟩))
    ·go_simp
     refine hK.out _ _ hA0.out (fun hA=> ?_)
     clear hK KK hA
     refine wpHd_one (i:=1) rfl rfl (by kernel_rfl) (fun KK hK=> ?_)
     go_simp
     refine hK.out _ _ hA0.out (fun hA=> ?_)
     clear hK KK hA
     refine wpHd_one (i:=2) rfl rfl (by kernel_rfl) (fun KK hK=> ?_)
     go_simp
     refine (HNX.out _).mono ?_
     rintro e w3 ⟨rfl,rfl⟩
     refine hK.out _ _ hA0.out (fun hA=> ?_)
     clear hK KK hA
     refine HG.on 6 59 hA0.out ?_
     try simp only [Act.put,List.setIfInBounds_toArray,List.set_cons_zero,List.set_cons_succ]
     (refine wpHd_one (i:=5) rfl rfl (by kernel_rfl) (fun KK hK=> ?_);go_simp;refine (HNY.out _).mono ?_;rintro e w4 ⟨rfl,rfl⟩;refine hK.out _ _ hA0.out (fun hA=> ?_);clear hK KK hA;refine wpHd_one (i:=7) rfl rfl (by kernel_rfl) (fun KK hK=> ?_);go_simp;refine hK.out _ _ hA0.out (fun hA=> ?_);clear hK KK hA;refine wpHd_tail (by kernel_rfl) ?_;simp only [List.drop_succ_cons,List.drop_zero];go_wp2;go_meet;(case rel=>exact ⟨rfl,Hm (by exact (H7.out.drew.set 2 (.int .u64 x)).set 3 (.int .u64 y)),Hm ((H6.out.drew.other _ _ (by simp)).other _ _ (by simp)),Hm ((HE2.out.drew.setNew (by simp) _).setNew (by simp) _)⟩))
   have r1:(ty==1)=false:=by simpa using q1
   have r2:(ty==2)=false:=by simpa using q2
   have r3:(ty==3)=false:=by simpa using q3
   have r4:(ty==4)=false:=by simpa using q4
   obtain rfl:x=0:=by have:=z3 q3 q4;omega
   obtain rfl:y=0:=by have:=z4 q4;omega
   have hS:S=s:=HS.out.trans (by unfold spellT;rw [if_neg q1,if_neg q2,if_neg q3,if_neg q4,strO_strL])
   subst hS
   clear HIT HNX HNY q1 q2 q3 q4 HS
   have hz: ¬ (2048:Int)<S.size:=by omega
   go_wp2
   go_meet
   case rel=>exact ⟨rfl,Hm (Blk.new' (w:=w.alloc (.cells #[.int .u8 0, .int .i64 0, .int .u64 0, .int .u64 0, .string ByteArray.empty] 99)) (b:=w.heap.size+1) _ 99 (by simp)),Hm ((Blk.new w #[.int .u8 0, .int .i64 0, .int .u64 0, .int .u64 0, .string ByteArray.empty] 99).alloc _),Hm (((Ext.refl w).alloc _).alloc _)⟩
 case rest=>
  as_aux_lemma=>
   obtain ⟨rfl,h7,h6,hE⟩:=hcut
   have k7:=h7.out.cell
   have z7:=h7.out.lt
   clear HIT HNX HNY
   go_wp2_with (go_at_call 141;refine (HSP.out _).mono ?_;rintro e w3 ⟨rfl,hb3⟩;have HB3:=Hm (hE.out.trans hb3);have H7:=Hm (h7.out.ext hb3);have H6:=Hm (h6.out.ext hb3);clear k7 z7 h7 h6 hE hb3;have k7:=H7.out.cell;have z7:=H7.out.lt;have k6:=H6.out.cell;have f6:=H6.out.frozen;have z6:=H6.out.lt)
   refine bodyPost_ret (res_read (Blk.fiveP H6.out) rfl rfl) rfl ⟨rfl, ?_⟩
   exact ((((HB3.out.setNew (Nat.le_refl _) _).setNew (Nat.le_refl _) _).setNew (Nat.le_refl _) _).setNew (Nat.le_refl _) _).setNew (Nat.le_refl _) _
def Rf.lt (a b:Rf):Prop:=aheadP a.o a.v b.o b.v
theorem Rf.irr (a:Rf): ¬ a.lt a:=ahead_irr
theorem Rf.trans {a b c:Rf} (h:a.lt b) (k:b.lt c):a.lt c:=ahead_trans h k
theorem Rf.tri (a b:Rf):a.lt b∨a=b∨b.lt a:=by
 rcases ahead_tri a.o a.v b.o b.v with h|h|h
 ·exact .inl h
 ·refine .inr (.inl ?_)
  obtain ⟨o,v⟩:=a;obtain ⟨o',v'⟩:=b
  simp only at h
  rw [h.1,h.2]
 ·exact .inr (.inr h)
def Rise (l:List Rf):Prop:=l.Pairwise Rf.lt
theorem Rise.nil:Rise []:=List.Pairwise.nil
theorem Rise.ext:∀ {l m:List Rf},Rise l→Rise m→(∀x,x∈l↔x∈m)→l=m
 | [], [],_,_,_=>rfl
 | [],b::m,_,_,h=>by have:=(h b).2 (by simp);cases this
 |a::l, [],_,_,h=>by have:=(h a).1 (by simp);cases this
 |a::l,b::m,hl,hm,h=>by
  have hl' :=List.pairwise_cons.1 hl
  have hm' :=List.pairwise_cons.1 hm
  have hab:a=b:=by
   rcases Rf.tri a b with q|q|q
   ·rcases List.mem_cons.1 ((h a).1 (by simp)) with e|e
    ·exact e
    ·exact absurd (Rf.trans q (hm'.1 a e)) (Rf.irr a)
   ·exact q
   ·rcases List.mem_cons.1 ((h b).2 (by simp)) with e|e
    ·exact e.symm
    ·exact absurd (Rf.trans q (hl'.1 b e)) (Rf.irr b)
  subst hab
  rw [Rise.ext hl'.2 hm'.2 (fun x=>by
   have hx:=h x
   constructor
   ·intro hxl
    rcases List.mem_cons.1 (hx.1 (List.mem_cons_of_mem _ hxl)) with e|e
    ·subst e;exact absurd (hl'.1 x hxl) (Rf.irr x)
    ·exact e
   ·intro hxm
    rcases List.mem_cons.1 (hx.2 (List.mem_cons_of_mem _ hxm)) with e|e
    ·subst e;exact absurd (hm'.1 x hxm) (Rf.irr x)
    ·exact e)]
open Classical in
noncomputable def putF (r:Rf):List Rf→List Rf
 | []=> [r]
 |x::l=>if x.lt r then x::putF r l else if x=r then x::l else r::x::l
theorem putF_mem {r x:Rf} :∀ {l:List Rf},x∈putF r l↔x=r∨x∈l
 | []=>by simp [putF]
 |y::l=>by
  unfold putF
  by_cases h:y.lt r
  ·rw [if_pos h,List.mem_cons,putF_mem,List.mem_cons]
   constructor
   ·rintro (h|h|h)
    ·exact .inr (.inl h)
    ·exact .inl h
    ·exact .inr (.inr h)
   ·rintro (h|h|h)
    ·exact .inr (.inl h)
    ·exact .inl h
    ·exact .inr (.inr h)
  ·rw [if_neg h]
   by_cases e:y=r
   ·rw [if_pos e]
    constructor
    ·exact .inr
    ·rintro (h|h)
     ·rw [h,e];simp
     ·exact h
   ·rw [if_neg e,List.mem_cons]
theorem putF_rise {r:Rf} :∀ {l:List Rf},Rise l→Rise (putF r l)
 | [],_=>by unfold putF;exact List.pairwise_singleton _ _
 |y::l,h=>by
  have h' :=List.pairwise_cons.1 h
  unfold putF
  by_cases hy:y.lt r
  ·rw [if_pos hy]
   refine List.pairwise_cons.2 ⟨fun x hx=> ?_,putF_rise h'.2⟩
   rcases putF_mem.1 hx with e|e
   ·rw [e];exact hy
   ·exact h'.1 x e
  ·rw [if_neg hy]
   by_cases e:y=r
   ·rw [if_pos e];exact h
   ·rw [if_neg e]
    have hr:r.lt y:=by
     rcases Rf.tri y r with q|q|q
     ·exact absurd q hy
     ·exact absurd q e
     ·exact q
    refine List.pairwise_cons.2 ⟨fun x hx=> ?_,h⟩
    rcases List.mem_cons.1 hx with e2|e2
    ·rw [e2];exact hr
    ·exact Rf.trans hr (h'.1 x e2)
theorem putF_all {r:Rf} :∀ {xs ys:List Rf},(∀x∈xs,x.lt r)→putF r (xs++ys)=xs++putF r ys
 | [],_,_=>rfl
 |x::xs,ys,h=>by
  show putF r (x::(xs++ys))=x::(xs++putF r ys)
  rw [putF,if_pos (h x (by simp)),putF_all (fun y hy=>h y (List.mem_cons_of_mem _ hy))]
theorem putF_in {r:Rf} :∀ {xs ys:List Rf},(∃x∈xs,¬ x.lt r)→putF r (xs++ys)=putF r xs++ys
 | [],_,h=>by obtain ⟨x,hx,_⟩:=h;cases hx
 |x::xs,ys,h=>by
  show putF r (x::(xs++ys))=putF r (x::xs)++ys
  by_cases hx:x.lt r
  ·rw [putF,if_pos hx,putF,if_pos hx,putF_in (xs:=xs) (ys:=ys) (by
    obtain ⟨y,hy,hn⟩:=h
    rcases List.mem_cons.1 hy with e|e
    ·rw [e] at hn;exact absurd hx hn
    ·exact ⟨y,e,hn⟩)]
   rfl
  ·by_cases e:x=r
   ·rw [putF,if_neg hx,if_pos e,putF,if_neg hx,if_pos e];rfl
   ·rw [putF,if_neg hx,if_neg e,putF,if_neg hx,if_neg e];rfl
noncomputable def putRs (acc:List Rf) (l:List Rf):List Rf:=l.foldl (fun a r=>putF r a) acc
theorem putRs_mem {x:Rf} :∀ {l acc:List Rf},x∈putRs acc l↔x∈acc∨x∈l
 | [],acc=>by simp [putRs]
 |r::l,acc=>by
  have h:=putRs_mem (x:=x) (l:=l) (acc:=putF r acc)
  show x∈putRs (putF r acc) l↔_
  rw [h,putF_mem,List.mem_cons]
  constructor
  ·rintro ((h|h)|h)
   ·exact .inr (.inl h)
   ·exact .inl h
   ·exact .inr (.inr h)
  ·rintro (h|h|h)
   ·exact .inl (.inr h)
   ·exact .inl (.inl h)
   ·exact .inr h
theorem putRs_rise:∀ {l acc:List Rf},Rise acc→Rise (putRs acc l)
 | [],_,h=>h
 |_::l,_,h=>putRs_rise (l:=l) (putF_rise h)
open Classical in
noncomputable def compF:List Rf→List Rf
 | []=> []
 | [a]=> [a]
 |a::b::l=>if a=b then compF (b::l) else a::compF (b::l)
def usesEs (es:List Ev):List Rf:=(es.map usesE).flatten
def usesTs (ts:List Tx):List Rf:=(ts.map fun t=>usesEs t.es).flatten
noncomputable def usedL (ts:List Tx):List Rf:=putRs [] (usesTs ts)
theorem usesEs_snoc (es:List Ev) (e:Ev):usesEs (es++ [e])=usesEs es++usesE e:=by unfold usesEs;simp
theorem usesTs_snoc (ts:List Tx) (t:Tx):usesTs (ts++ [t])=usesTs ts++usesEs t.es:=by unfold usesTs;simp
theorem putRs_snoc (acc a:List Rf) (r:Rf):putRs acc (a++ [r])=putF r (putRs acc a):=by unfold putRs;rw [List.foldl_append];rfl
theorem putF_len (r:Rf):∀l:List Rf,(putF r l).length≤l.length+1
 | []=>by unfold putF;simp
 |y::l=>by
  have ih:=putF_len r l
  unfold putF
  split
  ·simp only [List.length_cons];omega
  ·split<;>simp only [List.length_cons]<;>omega
theorem putRs_len:∀(l acc:List Rf),(putRs acc l).length≤acc.length+l.length
 | [],acc=>by unfold putRs;simp
 |r::l,acc=>by
  have h1:=putRs_len l (putF r acc)
  have h2:=putF_len r acc
  show (putRs (putF r acc) l).length≤_
  simp only [List.length_cons];omega
theorem usesE_len {e:Ev} {M:Nat} (h:e.rs.length≤M) (hM:1≤M):(usesE e).length≤M:=by
 unfold usesE
 split
 ·exact hM
 ·split
  ·exact h
  ·simp
theorem usesEs_len {M:Nat} (hM:1≤M):∀ {es:List Ev},(∀e∈es,e.rs.length≤M)→(usesEs es).length≤es.length*M
 | [],_=>by simp [usesEs]
 |e::es,h=>by
  have ih:=usesEs_len hM (es:=es) (fun x hx=>h x (List.mem_cons_of_mem _ hx))
  have h1:=usesE_len (h e (by simp)) hM
  have e1:usesEs (e::es)=usesE e++usesEs es:=by unfold usesEs;simp
  rw [e1,List.length_append,List.length_cons,Nat.succ_mul]
  omega
theorem usesTs_len {M L:Nat} (hM:1≤M):∀ {ts:List Tx},(∀t∈ts,t.es.length≤L∧∀e∈t.es,e.rs.length≤M)→(usesTs ts).length≤ts.length*(L*M)
 | [],_=>by simp [usesTs]
 |t::ts,h=>by
  have ih:=usesTs_len (L:=L) hM (ts:=ts) (fun x hx=>h x (List.mem_cons_of_mem _ hx))
  have h1:=usesEs_len hM (h t (by simp)).2
  have h2:=Nat.mul_le_mul_right M (h t (by simp)).1
  have e1:usesTs (t::ts)=usesEs t.es++usesTs ts:=by unfold usesTs;simp
  rw [e1,List.length_append,List.length_cons,Nat.succ_mul]
  omega
theorem usedL_rise (ts:List Tx):Rise (usedL ts):=putRs_rise Rise.nil
theorem usedL_mem {ts:List Tx} {x:Rf} :x∈usedL ts↔x∈usesTs ts:=by
 unfold usedL;rw [putRs_mem];simp
open Classical in
theorem len_sub:∀ {l m:List Rf},l.Nodup→(∀x∈l,x∈m)→l.length≤m.length
 | [],_,_,_=>Nat.zero_le _
 |a::l,m,hn,h=>by
  have hn' :=List.nodup_cons.1 hn
  have ha:=h a (by simp)
  have ih:=len_sub (l:=l) (m:=m.erase a) hn'.2 (fun x hx=>by
   have hne:x≠a:=fun e=>hn'.1 (e ▸ hx)
   exact (List.mem_erase_of_ne hne).2 (h x (List.mem_cons_of_mem _ hx)))
  rw [List.length_erase_of_mem ha] at ih
  have:0<m.length:=List.length_pos_of_mem ha
  simp only [List.length_cons];omega
theorem Rise.nodup {l:List Rf} (h:Rise l):l.Nodup:=by
 unfold Rise at h
 exact h.imp (fun {a b} q e=>by subst e;exact Rf.irr a q)
theorem Rise.at {l:List Rf} (h:Rise l) {i:Nat} (hi:i+1<l.length):l[i].lt l[i+1]:=by
 unfold Rise at h
 rw [List.pairwise_iff_getElem] at h
 exact h i (i+1) (by omega) hi (by omega)
noncomputable def ordS (s:Bool×List Rf) (m:Msg):Option (Bool×List Rf):=
 if m.k=66∨m.k=67 then (if s.1=decide (m.k=67) then some (!s.1,s.2) else none)
 else if m.k=82 then (if hasRf s.2 ⟨m.r.oid,m.r.ver⟩=true∨s.1=false then none else some (s.1,s.2++ [⟨m.r.oid,m.r.ver⟩]))
 else if (usesE m.e).all (hasRf s.2)=true∧s.1=true then some s else none
noncomputable def ordF (l:List Msg):Option (Bool×List Rf):=l.foldl (fun o m=>o.bind fun s=>ordS s m) (some (false, []))
theorem ordF_snoc (l:List Msg) (m:Msg):ordF (l++ [m])=(ordF l).bind fun s=>ordS s m:=by unfold ordF;rw [List.foldl_append];rfl
theorem ordF_none (l:List Msg):l.foldl (fun o m=>o.bind fun s=>ordS s m) none=none:=by
 induction l with
 |nil=>rfl
 |cons m l ih=>exact ih
theorem ordF_pre {l:List Msg} {s:Bool×List Rf} (h:ordF l=some s) (k:Nat):∃s',ordF (l.take k)=some s' :=by
 have h1:ordF l=(l.drop k).foldl (fun o m=>o.bind fun s=>ordS s m) (ordF (l.take k)):=by
  conv=>lhs;rw [←List.take_append_drop k l]
  unfold ordF
  rw [List.foldl_append]
 cases h2:ordF (l.take k) with
 |none=>rw [h2,ordF_none] at h1;rw [h1] at h;cases h
 |some s' =>exact ⟨s',rfl⟩
theorem ordF_at {l:List Msg} {s t:Bool×List Rf} (h:ordF l=some s) {k:Nat} (hk:k<l.length) (ht:ordF (l.take k)=some t):∃t',ordS t l[k]=some t'∧ordF (l.take (k+1))=some t' :=by
 obtain ⟨t',h1⟩:=ordF_pre h (k+1)
 rw [List.take_succ_eq_append_getElem hk,ordF_snoc,ht] at h1
 exact ⟨t',h1,by rw [List.take_succ_eq_append_getElem hk,ordF_snoc,ht];exact h1⟩
section
variable {C : List Rl}
theorem relM_rf {r:Rf} (h:hasR r.o r.v C=true):(⟨(relM C r).r.oid,(relM C r).r.ver⟩:Rf)=r:=by
 unfold relM
 cases hg:getR r.o r.v C with
 |none=>rw [getR_none.1 hg] at h;cases h
 |some q=>
  obtain ⟨-,h1,h2⟩:=getR_some hg
  show (⟨q.oid,q.ver⟩:Rf)=r
  rw [h1,h2]
theorem stU_ord {s:Said} {r:Rf} (h:ordF s.1=some (true,s.2)) (hr:hasR r.o r.v C=true):ordF (stU C s r).1=some (true,(stU C s r).2):=by
 unfold stU
 by_cases h1:hasRf s.2 r=true
 ·rw [if_pos h1];exact h
 ·rw [if_neg h1]
  show ordF (s.1++ [relM C r])=some (true,s.2++ [r])
  rw [ordF_snoc,h]
  show ordS (true,s.2) (relM C r)=_
  unfold ordS
  rw [relM_rf hr,if_neg (by show ¬ ((82:Int)=66∨(82:Int)=67);decide),if_pos (show (relM C r).k=82 from rfl),if_neg (by rintro (h2|h2);exact h1 h2;cases h2)]
theorem stU_mem {s:Said} {r x:Rf} :x∈(stU C s r).2↔x∈s.2∨x=r:=by
 unfold stU
 by_cases h1:hasRf s.2 r=true
 ·rw [if_pos h1]
  rw [hasRf_true] at h1
  constructor
  ·exact Or.inl
  ·rintro (h|rfl)
   ·exact h
   ·exact h1
 ·rw [if_neg h1]
  simp
theorem stU_nodup {s:Said} {r:Rf} (h:s.2.Nodup):(stU C s r).2.Nodup:=by
 unfold stU
 by_cases h1:hasRf s.2 r=true
 ·rw [if_pos h1];exact h
 ·rw [if_neg h1]
  rw [hasRf_true] at h1
  show (s.2++ [r]).Nodup
  rw [List.nodup_append]
  exact ⟨h,by simp,fun a ha b hb e=>by
   obtain rfl:b=r:=by simpa using hb
   exact h1 (e ▸ ha)⟩
theorem usU_all:∀(l:List Rf) (s:Said) (_:ordF s.1=some (true,s.2)) (_:∀r∈l,hasR r.o r.v C=true) (_:s.2.Nodup),ordF (usU C s l).1=some (true,(usU C s l).2)∧(usU C s l).2.Nodup∧∀x,x∈(usU C s l).2↔x∈s.2∨x∈l
 | [],s,h,_,h2=>⟨h,h2,fun x=>by show x∈s.2↔_;simp⟩
 |r::l,s,h,h1,h2=>by
  obtain ⟨a,b,c⟩:=usU_all l (stU C s r) (stU_ord h (h1 r (List.mem_cons_self ..))) (fun x hx=>h1 x (List.mem_cons_of_mem _ hx)) (stU_nodup h2)
  refine ⟨a,b,fun x=> ?_⟩
  show x∈(usU C (stU C s r) l).2↔_
  rw [c,stU_mem,List.mem_cons,or_assoc]
structure Ev.fit (C:List Rl) (e:Ev):Prop where
 k0:4≤e.kind
 k1:e.kind≤7
 uses:∀r∈usesE e,hasR r.o r.v C=true
theorem msgOf_k {e:Ev} (h0:4≤e.kind) (h1:e.kind≤7):(msgOf e).e=e∧(msgOf e).k≠66∧(msgOf e).k≠67∧(msgOf e).k≠82:=by
 unfold msgOf
 (repeat' split)<;>first|exact ⟨rfl,by simp,by simp,by simp⟩|(exfalso;omega)
theorem stV_all (s:Said) {v:Ev} (h:ordF s.1=some (true,s.2)) (hv:v.fit C) (hn:s.2.Nodup):ordF (stV C s v).1=some (true,(stV C s v).2)∧(stV C s v).2.Nodup∧∀x,x∈(stV C s v).2↔x∈s.2∨x∈usesE v:=by
 obtain ⟨a,b,c⟩:=usU_all (usesE v) s h hv.uses hn
 refine ⟨?_,b,c⟩
 show ordF ((usU C s (usesE v)).1++ [msgOf v])=some (true,(usU C s (usesE v)).2)
 obtain ⟨e0,e1,e2,e3⟩:=msgOf_k hv.k0 hv.k1
 rw [ordF_snoc,a]
 show ordS (true,(usU C s (usesE v)).2) (msgOf v)=_
 unfold ordS
 rw [if_neg (by rintro (q|q);exact e1 q;exact e2 q),if_neg e3,if_pos]
 refine ⟨?_,rfl⟩
 rw [e0,List.all_eq_true]
 intro x hx
 rw [hasRf_true]
 exact (c x).2 (.inr hx)
theorem evV_all:∀(l:List Ev) (s:Said) (_:ordF s.1=some (true,s.2)) (_:∀v∈l,v.fit C) (_:s.2.Nodup),ordF (evV C s l).1=some (true,(evV C s l).2)∧(evV C s l).2.Nodup∧∀x,x∈(evV C s l).2↔x∈s.2∨x∈usesEs l
 | [],s,h,_,hn=>⟨h,hn,fun x=>by show x∈s.2↔_;unfold usesEs;simp⟩
 |v::l,s,h,hv,hn=>by
  obtain ⟨a,b,c⟩:=stV_all s h (hv v (List.mem_cons_self ..)) hn
  obtain ⟨a2,b2,c2⟩:=evV_all l (stV C s v) a (fun x hx=>hv x (List.mem_cons_of_mem _ hx)) b
  refine ⟨a2,b2,fun x=> ?_⟩
  show x∈(evV C (stV C s v) l).2↔_
  rw [c2,c,or_assoc]
  unfold usesEs
  rw [List.map_cons,List.flatten_cons,List.mem_append]
theorem stT_all (s:Said) {t:Tx} (h:ordF s.1=some (false,s.2)) (ht:∀v∈t.es,v.fit C) (hn:s.2.Nodup):ordF (stT C s t).1=some (false,(stT C s t).2)∧(stT C s t).2.Nodup∧∀x,x∈(stT C s t).2↔x∈s.2∨x∈usesEs t.es:=by
 obtain ⟨a,b,c⟩:=evV_all t.es (s.1++ [txMB t],s.2) (by
  show ordF (s.1++ [txMB t])=some (true,s.2)
  rw [ordF_snoc,h]
  rfl) ht hn
 refine ⟨?_,b,c⟩
 show ordF ((evV C (s.1++ [txMB t],s.2) t.es).1++ [txMC t])=some (false,(evV C (s.1++ [txMB t],s.2) t.es).2)
 rw [ordF_snoc,a]
 rfl
theorem txT_all:∀(l:List Tx) (s:Said) (_:ordF s.1=some (false,s.2)) (_:∀t∈l,∀v∈t.es,v.fit C) (_:s.2.Nodup),ordF (txT C s l).1=some (false,(txT C s l).2)∧(txT C s l).2.Nodup∧∀x,x∈(txT C s l).2↔x∈s.2∨x∈usesTs l
 | [],s,h,_,hn=>⟨h,hn,fun x=>by show x∈s.2↔_;unfold usesTs;simp⟩
 |t::l,s,h,hv,hn=>by
  obtain ⟨a,b,c⟩:=stT_all s h (hv t (List.mem_cons_self ..)) hn
  obtain ⟨a2,b2,c2⟩:=txT_all l (stT C s t) a (fun x hx=>hv x (List.mem_cons_of_mem _ hx)) b
  refine ⟨a2,b2,fun x=> ?_⟩
  show x∈(txT C (stT C s t) l).2↔_
  rw [c2,c,or_assoc]
  unfold usesTs
  rw [List.map_cons,List.flatten_cons,List.mem_append]
theorem story_ord {l:List Tx} (h:∀t∈l,∀v∈t.es,v.fit C):∃rs,ordF (storyM C l)=some (false,rs)∧rs.length=(usedL l).length:=by
 obtain ⟨a,b,c⟩:=txT_all l ([], []) rfl h (by simp)
 refine ⟨_,a,Nat.le_antisymm (len_sub b fun x hx=> ?_) (len_sub (usedL_rise l).nodup fun x hx=> ?_)⟩
 ·rw [usedL_mem]
  rcases (c x).1 hx with h1|h1
  ·cases h1
  ·exact h1
 ·rw [usedL_mem] at hx
  exact (c x).2 (.inr hx)
end
theorem getR_in {l:List Rl} (hl:CatOk l) {x:Rl} (hx:x∈l):getR x.oid x.ver l=some x:=by
 obtain ⟨i,hi,rfl⟩:=List.getElem_of_mem hx
 exact hl.srt.get_at hi ⟨rfl,rfl⟩
theorem ofE_all {l:List Rl} (h:ofE l=0):(∀x,x∈ofUp l l.length↔x∈l)∧(ofUp l l.length).length=l.length:=by
 obtain ⟨h1,h2⟩:=ofUp_mem (firstE_all h) l.length (Nat.le_refl _)
 rw [List.take_length] at h1
 exact ⟨h1,h2⟩
theorem getR_up {l:List Rl} (h:ofE l=0) (o v:Int):getR o v (ofUp l l.length)=getR o v l:=by
 have hm:=(ofE_all h).1
 cases hg:getR o v l with
 |some x=>
  obtain ⟨h1,h2,h3⟩:=getR_some hg
  have:=getR_in (ofUp_ok l l.length) ((hm x).2 h1)
  rw [h2,h3] at this
  exact this
 |none=>
  rw [getR_none] at hg⊢
  unfold hasR at hg⊢
  rw [List.any_eq_false] at hg⊢
  exact fun x hx=>hg x ((hm x).1 hx)
theorem ofE_right {l:List Rl} (h:ofE l=0):∀r∈l,r.right=0:=fun r hr=>(ofUp_ok l l.length).right r (((ofE_all h).1 r).2 hr)
theorem evE_congr {C D:List Rl} (h:∀o v,getR o v C=getR o v D) (e:Ev):evE e C=evE e D:=by
 have h1:∀o v,hasR o v C=hasR o v D:=fun o v=>by
  cases hd:hasR o v D with
  |false=>rw [←getR_none] at hd⊢;rw [h];exact hd
  |true=>
   cases hc:hasR o v C with
   |true=>rfl
   |false=>rw [←getR_none,h,getR_none,hd] at hc;cases hc
 unfold evE truncE hasAll
 simp only [h,h1]
structure EvRow (C:List Rl) (e:Ev) (r:Rl):Prop where
 got:getR e.ao e.av C=some r
 rs:e.rs= []
 fl:e.fl=0
 k0:4≤e.kind
 k1:e.kind≤6
 old:e.old≤2
 old4:e.kind=4→e.old=0
 old6:e.kind=6→e.old≠0
 b0:e.old=0→e.b= []
 b1:e.old≠0→fitsE e.b r=0
 a0:e.kind=6→e.a= []
 a1:e.kind≠6→fitsE e.a r=0
theorem isKey_fit {l:List K} {r:Rl} (h:isKeyE l r=0):fitsE l r=0:=by
 unfold isKeyE at h
 split at h
 ·rename_i h1;exact absurd h h1
 ·rename_i h1;exact keyed_fits (by simpa using h1)
theorem isFull_fit {l:List K} {r:Rl} (h:isFullE l r=0):fitsE l r=0:=by
 unfold isFullE at h
 split at h
 ·rename_i h1;exact absurd h h1
 ·rename_i h1;exact keyed_fits (by simpa using h1)
theorem ev_parts {C:List Rl} {e:Ev} (h:evE e C=0):(4≤e.kind∧e.kind≤7)∧e=e.only∧(e.kind=7→truncE e C=0)∧(e.kind≠7→∃r,getR e.ao e.av C=some r∧imgE r e.kind e.old e.b e.a=0):=by
 unfold evE at h
 by_cases c1:e.kind<4∨7<e.kind
 ·rw [if_pos c1] at h;cases h
 rw [if_neg c1] at h
 by_cases c2:ownB e=false
 ·rw [if_pos c2] at h;cases h
 rw [if_neg c2] at h
 have ho:e=e.only:=by
  unfold ownB at c2
  rw [←evB_true]
  simpa using c2
 refine ⟨by omega,ho,fun h7=>by rw [if_pos h7] at h;exact h,fun h7=> ?_⟩
 rw [if_neg h7] at h
 split at h
 ·cases h
 ·rename_i r hr
  exact ⟨r,hr,h⟩
theorem ev_row {C:List Rl} {e:Ev} (h:evE e C=0) (h7:e.kind≠7) (h0:0≤e.old):∃r,EvRow C e r:=by
 obtain ⟨hk,ho, -,h3⟩:=ev_parts h
 obtain ⟨r,hr,hi⟩:=h3 h7
 have hw:rowedB e.kind=true:=decide_eq_true (by omega)
 unfold Ev.only at ho
 rw [if_pos hw] at ho
 unfold imgE at hi
 by_cases c1:e.kind<4∨6<e.kind
 ·rw [if_pos c1] at hi;cases hi
 rw [if_neg c1] at hi
 by_cases c2:2<e.old
 ·rw [if_pos c2] at hi;cases hi
 rw [if_neg c2] at hi
 by_cases c3:e.old=0∧0<e.b.length
 ·rw [if_pos c3] at hi;cases hi
 rw [if_neg c3] at hi
 by_cases c4:e.kind=6∧0<e.a.length
 ·rw [if_pos c4] at hi;cases hi
 rw [if_neg c4] at hi
 by_cases c5:allowB r.id e.kind e.old=false
 ·rw [if_pos c5] at hi;cases hi
 rw [if_neg c5] at hi
 by_cases c6:e.old=1∧isKeyE e.b r≠0
 ·rw [if_pos c6] at hi;exact absurd hi c6.2
 rw [if_neg c6] at hi
 by_cases c7:e.old=2∧isFullE e.b r≠0
 ·rw [if_pos c7] at hi;exact absurd hi c7.2
 rw [if_neg c7] at hi
 have c5' :allowB r.id e.kind e.old=true:=by simpa using c5
 unfold allowB at c5'
 refine ⟨r,hr, ?_, ?_,hk.1,by omega,by omega,fun h4=> ?_,fun h6=> ?_,fun hz=> ?_,fun hz=> ?_,fun h6=> ?_,fun h6=> ?_⟩
 ·exact congrArg Ev.rs ho
 ·exact congrArg Ev.fl ho
 ·rw [if_pos h4] at c5';simpa using c5'
 ·rw [if_neg (by omega),if_neg (by omega),Bool.and_eq_true] at c5'
  obtain ⟨q1,q2⟩:=c5'
  have q1:=of_decide_eq_true q1
  have q2: ¬ r.id=0:=by simpa using q2
  omega
 ·have:e.b.length=0:=by omega
  exact List.length_eq_zero_iff.1 this
 ·by_cases c8:e.old=1
  ·exact isKey_fit (Classical.byContradiction fun hc=>c6 ⟨c8,hc⟩)
  ·exact isFull_fit (Classical.byContradiction fun hc=>c7 ⟨by omega,hc⟩)
 ·have:e.a.length=0:=by omega
  exact List.length_eq_zero_iff.1 this
 ·rw [if_neg h6] at hi
  by_cases c8:e.kind=4∧isFullE e.a r≠0
  ·rw [if_pos c8] at hi;exact absurd hi c8.2
  rw [if_neg c8] at hi
  by_cases c9:e.kind≠4∧keyedE e.a r≠0
  ·rw [if_pos c9] at hi;exact absurd hi c9.2
  by_cases c10:e.kind=4
  ·exact isFull_fit (Classical.byContradiction fun hc=>c8 ⟨c10,hc⟩)
  ·exact keyed_fits (Classical.byContradiction fun hc=>c9 ⟨c10,hc⟩)
structure EvTr (C:List Rl) (e:Ev):Prop where
 is:e=⟨7,0,0,0, [], [],e.rs,e.fl⟩
 n:e.rs.length≤8
 all:∀r∈e.rs,hasR r.o r.v C=true
 fl:e.fl≤3
theorem ev_tr {C:List Rl} {e:Ev} (h:evE e C=0) (h7:e.kind=7):EvTr C e:=by
 obtain ⟨-,ho,h2, -⟩:=ev_parts h
 have h3:=h2 h7
 have hw:rowedB e.kind=false:=decide_eq_false (by omega)
 unfold Ev.only at ho
 rw [if_neg (by rw [hw];simp),h7] at ho
 unfold truncE at h3
 by_cases c1:e.rs.length<1∨8<e.rs.length
 ·rw [if_pos c1] at h3;cases h3
 rw [if_neg c1] at h3
 by_cases c2:risB e.rs=false
 ·rw [if_pos c2] at h3;cases h3
 rw [if_neg c2] at h3
 by_cases c3:hasAll e.rs C=false
 ·rw [if_pos c3] at h3;cases h3
 rw [if_neg c3] at h3
 by_cases c4:3<e.fl
 ·rw [if_pos c4] at h3;cases h3
 refine ⟨ho,by omega,fun r hr=> ?_,by omega⟩
 have c3' :hasAll e.rs C=true:=by simpa using c3
 unfold hasAll at c3'
 rw [List.all_eq_true] at c3'
 exact c3' r hr
theorem ev_fit {C:List Rl} {e:Ev} (h:evE e C=0) (h0:0≤e.old):e.fit C:=by
 have hk:=(ev_parts h).1
 refine ⟨hk.1,hk.2,fun r hr=> ?_⟩
 unfold usesE at hr
 by_cases h7:e.kind=7
 ·have hw:rowedB e.kind=false:=decide_eq_false (by omega)
  rw [if_neg (by rw [hw];simp),if_pos h7] at hr
  exact (ev_tr h h7).all r hr
 ·have hw:rowedB e.kind=true:=decide_eq_true (by omega)
  rw [if_pos hw] at hr
  obtain rfl:r=⟨e.ao,e.av⟩:=by simpa using hr
  obtain ⟨q,hq⟩:=ev_row h h7 h0
  cases hc:hasR e.ao e.av C with
  |true=>rfl
  |false=>rw [←getR_none,hq.got] at hc;cases hc
end Go.Proofs.YtgmphpccpfaapaaGreatDoor
