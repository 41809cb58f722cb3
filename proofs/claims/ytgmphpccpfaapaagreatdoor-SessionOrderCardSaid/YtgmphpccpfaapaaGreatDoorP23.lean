/-
A value's spelling: the program's answer.
-/
import Derived.ProofKit
import Derived.OpenShut
import Derived.Deep.Slices
import Derived.Test.YtgmphpccpfaapaaGreatDoorP22
import Derived.Test.YtgmphpccpfaapaaGreatDoorP21
import Derived.Test.YtgmphpccpfaapaaGreatDoorP1
import Derived.Test.YtgmphpccpfaapaaGreatDoorP19
import Derived.Test.YtgmphpccpfaapaaGreatDoorP2
import Derived.Test.YtgmphpccpfaapaaGreatDoorP18
set_option maxRecDepth 100000
set_option maxHeartbeats 16000000
namespace Go.Proofs.YtgmphpccpfaapaaGreatDoor
open Go.RowKit Go.Shelf Go.Sort
theorem litL_str (l:List UInt8):strOfNums (litL l)=⟨l.toArray⟩:=by
 apply ByteArray.ext
 apply Array.ext'
 simp [strOfNums,litL,Function.comp_def]
theorem rightV_bits {ty n x y:Int} {s:ByteArray} (h:rightV ty n x y s=0):(1≤ty∧ty≤6)∧(ty=1→n=0∨n=1)∧s.size≤2048:=by
 unfold rightV at h
 split at h
 ·cases h
 ·split at h
  ·cases h
  ·split at h
   ·cases h
   ·split at h
    ·cases h
    ·omega
theorem fmt_any (v:Int) (w:World) (h0: -9223372036854775808≤v) (h1:v≤9223372036854775807) (ht:Tab w):
 Calls Tryz.prog 154 #[.int .i64 v, .int .i64 10] w fun e w' =>e= .returned (.string (strOfNums (litL (Lib.itoa v))))∧Ext w w' :=by
 have h:=Any.internal_strconv_FormatInt_10 Tryz.laysM246 v h0 h1 w ht
 change Calls Tryz.prog 172 _ _ _ at h
 have HC:=Hm h
 rw [litL_str]
 clear h ht
 go_enter Tryz.func154,Tryz.ntmps154
 go_wp2_with (go_at_call 172;refine HC.out.mono ?_;rintro e w' ⟨rfl,k,os,rfl⟩)
 go_ret
 exact ⟨rfl,ext_grow w k os⟩
theorem form_any (ty:Int) (w:World):Calls Tryz.prog 134 #[.int .u8 ty] w fun e w' =>e= .returned (.int .u8 (formI ty))∧Ext w w' :=by
 have HR:=Hm (show formI ty=if ty=1∨ty=2∨ty=5 then 116 else if ty=3∨ty=4∨ty=6 then 98 else 0 from rfl)
 by_cases h1:ty=1
 ·subst h1;go_enter Tryz.func134,Tryz.ntmps134;go_wp2;go_ret;exact ⟨rfl,Ext.refl _⟩
 by_cases h2:ty=2
 ·subst h2;go_enter Tryz.func134,Tryz.ntmps134;go_wp2;go_ret;exact ⟨rfl,Ext.refl _⟩
 by_cases h5:ty=5
 ·subst h5;go_enter Tryz.func134,Tryz.ntmps134;go_wp2;go_ret;exact ⟨rfl,Ext.refl _⟩
 by_cases h3:ty=3
 ·subst h3;go_enter Tryz.func134,Tryz.ntmps134;go_wp2;go_ret;exact ⟨rfl,Ext.refl _⟩
 by_cases h4:ty=4
 ·subst h4;go_enter Tryz.func134,Tryz.ntmps134;go_wp2;go_ret;exact ⟨rfl,Ext.refl _⟩
 by_cases h6:ty=6
 ·subst h6;go_enter Tryz.func134,Tryz.ntmps134;go_wp2;go_ret;exact ⟨rfl,Ext.refl _⟩
 have HZ:=Hm (HR.out.trans ((if_neg (by omega)).trans (if_neg (by omega))))
 have k1:(ty==1)=false:=by simpa using h1
 have k2:(ty==2)=false:=by simpa using h2
 have k3:(ty==3)=false:=by simpa using h3
 have k4:(ty==4)=false:=by simpa using h4
 have k5:(ty==5)=false:=by simpa using h5
 have k6:(ty==6)=false:=by simpa using h6
 clear HR h1 h2 h3 h4 h5 h6
 go_enter Tryz.func134,Tryz.ntmps134
 go_wp2
 go_ret
 exact ⟨by rw [HZ.out];rfl,Ext.refl _⟩
theorem spell_any (ty n:Int) (x y:Nat) (s:ByteArray) (w:World) (hn: -9223372036854775808≤n∧n≤9223372036854775807) (hs:s.size≤9223372036854775807) (ht:Tab w):
 Calls Tryz.prog 133 #[.agg #[.int .u8 ty, .int .i64 n, .complex .f64 x y, .string s]] w fun e w' =>e= .returned (.tuple #[.string (strOfNums (spellL ty n x y s)), .int .i64 (rightV ty n x y s)])∧Ext w w' :=by
 have HV:=Hm (fun W=>vright_any ty n x y s W hs)
 have HF:=Hm (fun W (h:Ext w W)=>fmt_any n W hn.1 hn.2 (ht.ext h))
 have HX:=Hm (Blk.new w #[.int .u8 ty, .int .i64 n, .complex .f64 x y, .string s] 162)
 clear ht
 by_cases hE:rightV ty n x y s=0
 case neg=>
  have HL:=Hm (show spellL ty n x y s= [] from if_pos hE)
  have HE2:(rightV ty n x y s !=0)=true:=by simpa using hE
  obtain ⟨E,hEE⟩:∃E,E=rightV ty n x y s:=⟨_,rfl⟩
  rw [←hEE] at HV HE2⊢
  clear hE hEE
  go_enter Tryz.func133,Tryz.ntmps133
  have gX:=HX.out.cell
  have zX:=HX.out.lt
  go_wp2_with (go_at_call 153;refine (HV.out _).mono ?_;rintro e w2 ⟨rfl,hb2⟩)
  go_ret2
  exact ⟨by rw [HL.out];rfl,by exact eX⟩
 have HL:=Hm (show spellL ty n x y s=spellT ty n x y s from if_neg (by rw [hE];simp))
 rw [hE] at HV⊢
 have HB:=Hm (rightV_bits hE)
 have HWX:=Hm (fun (m:Nat) W=>word_any (m:Int) W)
 by_cases h1:ty=1
 ·subst h1
  rcases HB.out.2.1 rfl with rfl|rfl
  all_goals
   clear hE HF HWX
   go_enter Tryz.func133,Tryz.ntmps133
   have gX:=HX.out.cell
   have zX:=HX.out.lt
   go_wp2_with (go_at_call 153;refine (HV.out _).mono ?_;rintro e w2 ⟨rfl,hb2⟩;clear gX zX;have gX:=(HX.out.ext hb2).cell;have zX:=(HX.out.ext hb2).lt)
   go_ret2
   exact ⟨by rw [HL.out];rfl,by exact eX⟩
 have k1:(ty==1)=false:=by simpa using h1
 by_cases h2:ty=2
 ·subst h2
  have HS:=Hm (HL.out.trans (show spellT 2 n x y s=litL (Lib.itoa n) from rfl))
  clear hE HWX HL
  go_enter Tryz.func133,Tryz.ntmps133
  have gX:=HX.out.cell
  have zX:=HX.out.lt
  go_wp2_with (first
   |(go_at_call 153;refine (HV.out _).mono ?_;rintro e w2 ⟨rfl,hb2⟩;clear gX zX;have gX:=(HX.out.ext hb2).cell;have zX:=(HX.out.ext hb2).lt)
   |(go_at_call 154;refine (HF.out _ (by exact eX)).mono ?_;rintro e w3 ⟨rfl,hb3⟩))
  go_ret2
  exact ⟨by rw [HS.out];rfl,by exact eX⟩
 have k2:(ty==2)=false:=by simpa using h2
 by_cases h3:ty=3
 ·subst h3
  have HS:=Hm (HL.out.trans (show spellT 3 n x y s=octs x 8 from rfl))
  clear hE HF HL
  have hfb:=call_bits
  go_enter Tryz.func133,Tryz.ntmps133
  have gX:=HX.out.cell
  have zX:=HX.out.lt
  go_wp2_with (first
   |(go_at_call 153;refine (HV.out _).mono ?_;rintro e w2 ⟨rfl,hb2⟩;clear gX zX;have gX:=(HX.out.ext hb2).cell;have zX:=(HX.out.ext hb2).lt)
   |(go_at_call 155;refine (HWX.out x _).mono ?_;rintro e w3 ⟨rfl,hb3⟩))
  go_ret2
  exact ⟨by rw [HS.out];rfl,by exact eX⟩
 have k3:(ty==3)=false:=by simpa using h3
 by_cases h4:ty=4
 ·subst h4
  have HS:=Hm (HL.out.trans (show spellT 4 n x y s=octs x 8++octs y 8 from rfl))
  have s1:=strO_size (octs x 8)
  have s2:=strO_size (octs y 8)
  rw [octs_len] at s1 s2
  clear hE HF HL
  have hfb:=call_bits
  go_enter Tryz.func133,Tryz.ntmps133
  have gX:=HX.out.cell
  have zX:=HX.out.lt
  go_upto_region 12 with (go_at_call 153;refine (HV.out _).mono ?_;rintro e w2 ⟨rfl,hb2⟩;have HX2:=Hm (HX.out.ext hb2);have HB2:=Hm hb2;clear gX zX hb2;have gX:=HX2.out.cell;have zX:=HX2.out.lt)
  have HE2:=Hm (show Ext w w2 by have:=HB2.out;exact eX)
  have hA0:Hid ((fun w' =>Ext (w2) w'∧(∀b o,b<(w2).heap.size→w'.cell? ⟨b,o,none⟩=(w2).cell? ⟨b,o,none⟩)∧(∀b o,b<(w2).heap.size→w'.frozen? ⟨b,o,none⟩=(w2).frozen? ⟨b,o,none⟩)) w2.drew):=held_of (by exact eX)
  refine wp_region_head 11 (fun w' =>Ext (w2) w'∧(∀b o,b<(w2).heap.size→w'.cell? ⟨b,o,none⟩=(w2).cell? ⟨b,o,none⟩)∧(∀b o,b<(w2).heap.size→w'.frozen? ⟨b,o,none⟩=(w2).frozen? ⟨b,o,none⟩)) (by kernel_rfl) (by decide) ?_
  refine HG.on 0 34 hA0.out ?_
  try simp only [Act.put,List.setIfInBounds_toArray,List.set_cons_zero,List.set_cons_succ]
  refine HG.on 1 35 hA0.out ?_
  try simp only [Act.put,List.setIfInBounds_toArray,List.set_cons_zero,List.set_cons_succ]
  refine HG.on 2 36 hA0.out ?_
  try simp only [Act.put,List.setIfInBounds_toArray,List.set_cons_zero,List.set_cons_succ]
  refine HG.on 5 39 hA0.out ?_
  try simp only [Act.put,List.setIfInBounds_toArray,List.set_cons_zero,List.set_cons_succ]
  refine HG.on 6 40 hA0.out ?_
  try simp only [Act.put,List.setIfInBounds_toArray,List.set_cons_zero,List.set_cons_succ]
  refine HG.on 7 41 hA0.out ?_
  try simp only [Act.put,List.setIfInBounds_toArray,List.set_cons_zero,List.set_cons_succ]
  refine wpHd_one (i:=3) rfl rfl (by kernel_rfl) (fun KK hK=> ?_)
  go_simp
  refine hK.out _ _ hA0.out (fun hA=> ?_)
  clear hK KK hA
  refine wpHd_one (i:=4) rfl rfl (by kernel_rfl) (fun KK hK=> ?_)
  go_simp
  refine (HWX.out x _).mono ?_
  rintro e w3 ⟨rfl,hb3⟩
  have HB3:Hid (Ext w2 w3):=Hm (by exact eX)
  refine hK.out _ _ (held_of HB3.out) (fun hA=> ?_)
  clear hK KK hA hA0 hb3
  have hA0:Hid ((fun w' =>Ext (w2) w'∧(∀b o,b<(w2).heap.size→w'.cell? ⟨b,o,none⟩=(w2).cell? ⟨b,o,none⟩)∧(∀b o,b<(w2).heap.size→w'.frozen? ⟨b,o,none⟩=(w2).frozen? ⟨b,o,none⟩)) w3):=held_of HB3.out
  refine wpHd_one (i:=8) rfl rfl (by kernel_rfl) (fun KK hK=> ?_)
  go_simp
  refine hK.out _ _ hA0.out (fun hA=> ?_)
  clear hK KK hA hA0
  refine wpHd_one (i:=9) rfl rfl (by kernel_rfl) (fun KK hK=> ?_)
  go_simp
  refine (HWX.out y _).mono ?_
  rintro e w4 ⟨rfl,hb4⟩
  have HB4:Hid (Ext w2 w4):=Hm (HB3.out.trans hb4)
  refine hK.out _ _ (held_of HB4.out) (fun hA=> ?_)
  clear hK KK hA hb4
  have hA0:Hid ((fun w' =>Ext (w2) w'∧(∀b o,b<(w2).heap.size→w'.cell? ⟨b,o,none⟩=(w2).cell? ⟨b,o,none⟩)∧(∀b o,b<(w2).heap.size→w'.frozen? ⟨b,o,none⟩=(w2).frozen? ⟨b,o,none⟩)) w4):=held_of HB4.out
  refine HG.on 10 44 hA0.out ?_
  try simp only [Act.put,List.setIfInBounds_toArray,List.set_cons_zero,List.set_cons_succ]
  clear hA0 gX zX
  refine wpHd_tail (by kernel_rfl) ?_
  simp only [List.drop_succ_cons,List.drop_zero]
  go_wp2
  go_ret2
  exact ⟨by rw [HS.out,←strO_app];rfl,HE2.out.trans HB4.out⟩
 have k4:(ty==4)=false:=by simpa using h4
 have HS:=Hm (HL.out.trans (show spellT ty n x y s=strL s from by unfold spellT;rw [if_neg h1,if_neg h2,if_neg h3,if_neg h4]))
 clear hE HF HL HWX h1 h2 h3 h4
 go_enter Tryz.func133,Tryz.ntmps133
 have gX:=HX.out.cell
 have zX:=HX.out.lt
 go_wp2_with (go_at_call 153;refine (HV.out _).mono ?_;rintro e w2 ⟨rfl,hb2⟩;clear gX zX;have gX:=(HX.out.ext hb2).cell;have zX:=(HX.out.ext hb2).lt)
 go_ret2
 exact ⟨by rw [HS.out,strO_strL];rfl,by exact eX⟩
end Go.Proofs.YtgmphpccpfaapaaGreatDoor
namespace Go.Proofs.YtgmphpccpfaapaaGreatDoor
open Go.RowKit
theorem spellL_len (ty n:Int) (x y:Nat) (s:ByteArray) (hn: -9223372036854775808≤n∧n≤9223372036854775807):(spellL ty n x y s).length≤3000:=by
 unfold spellL
 split
 ·simp
 ·rename_i h
  have h1:=(rightV_bits (show rightV ty n x y s=0 by simpa using h)).2.2
  have h2:=itoa_len hn.1 hn.2
  unfold spellT
  split
  ·simp
  ·split
   ·unfold litL;rw [List.length_map];omega
   ·split
    ·rw [octs_len];omega
    ·split
     ·rw [List.length_append,octs_len,octs_len];omega
     ·rw [strL_len];omega
theorem strL_isB (s:ByteArray):∀b∈strL s,0≤b∧b<256:=by
 intro b hb
 unfold strL at hb
 obtain ⟨u, -,rfl⟩:=List.mem_map.1 hb
 have:=u.toNat_lt
 omega
theorem litL_isB (l:List UInt8):∀b∈litL l,0≤b∧b<256:=by
 intro b hb
 unfold litL at hb
 obtain ⟨u, -,rfl⟩:=List.mem_map.1 hb
 have:=u.toNat_lt
 omega
theorem strL_strO {l:List Int} (h:∀b∈l,0≤b∧b<256):strL (strOfNums l)=l:=by
 unfold strL strOfNums
 simp only [List.map_map]
 conv=>rhs;rw [←List.map_id l]
 refine List.map_congr_left fun b hb=> ?_
 have h1:=h b hb
 simp only [Function.comp_apply,id_eq]
 rw [UInt8.toNat_ofNat_of_lt' (show b.toNat<2 ^ 8 by omega)]
 omega
theorem spellL_isB (ty n:Int) (x y:Nat) (s:ByteArray):∀b∈spellL ty n x y s,0≤b∧b<256:=by
 unfold spellL spellT
 split
 ·intro b hb;cases hb
 ·split
  ·intro b hb
   rw [List.mem_singleton] at hb
   split at hb<;>omega
  ·split
   ·exact litL_isB _
   ·split
    ·exact octs_isB _ _
    ·split
     ·intro b hb
      rcases List.mem_append.1 hb with h|h
      ·exact octs_isB _ _ b h
      ·exact octs_isB _ _ b h
     ·exact strL_isB s
theorem wcell_any (g:Nat) (q:Option Nat) (l:List Int) (c:K) (w:World) (h:WB w g q l) (hlen:l.length≤700000000) (hn: -9223372036854775808≤c.v.n∧c.v.n≤9223372036854775807) (hs:c.v.s.size≤9223372036854775807) (ht:Tab w):
 Calls Tryz.prog 103 #[.pointer (some ⟨g,0,none⟩), .agg #[.int .u8 c.k, .int .u8 c.v.ty, .int .i64 c.v.n, .complex .f64 c.v.x c.v.y, .string c.v.s]] w (WQ g q (l++cellW c) w):=by
 have HSL:=Hm (spellL_len c.v.ty c.v.n c.v.x c.v.y c.v.s hn)
 have HSP:=Hm (fun W (h:Ext w W)=>spell_any c.v.ty c.v.n c.v.x c.v.y c.v.s W hn hs (ht.ext h))
 have HCW:=Hm (show cellW c=if c.k=0 then [110] else if c.k=1 then [117] else formI c.v.ty::(octs (spellL c.v.ty c.v.n c.v.x c.v.y c.v.s).length 4++spellL c.v.ty c.v.n c.v.x c.v.y c.v.s) from rfl)
 generalize cellW c=CW at HCW
 obtain ⟨k,⟨ty,n,x,y,s⟩⟩:=c
 simp only at HSL HSP HCW hn hs⊢
 have HE1:=Hm (show Ext w (w.alloc (.cells #[.int .u8 k, .int .u8 ty, .int .i64 n, .complex .f64 x y, .string s] 164)) from (Ext.refl w).alloc _)
 have HX1:=Hm (Blk.new w #[.int .u8 k, .int .u8 ty, .int .i64 n, .complex .f64 x y, .string s] 164)
 have HNW:=Hm (h.new (b:=w.heap.size) (Nat.le_refl _))
 have HGL:=Hm h.lt
 obtain ⟨v,hb,ho,rfl⟩:=h
 obtain ⟨va,vc,rfl⟩:=ho.shape
 obtain ⟨lv,hlv⟩:∃L,L=l.length:=⟨_,rfl⟩
 rw [←hlv] at hb ho HNW⊢
 have HLV:=Hm hlv
 have HB1:=Hm (hb.ext HE1.out)
 have HO1:=Hm (ho.ext HE1.out)
 have HWB:=Hm (show WB w g (Value.slice va lv vc).ownBlock l from ⟨_,hb,ho,rfl⟩)
 clear hb ho ht hlv
 have hlen2:lv≤700000000:=by have:=HLV.out;omega
 by_cases h0:k=0
 ·subst h0
  have HR:=Hm (HCW.out.trans (if_pos rfl))
  clear HCW HSP HSL
  have HB2:=Hm (HB1.out.alloc (.cells #[.int .u8 110] 5))
  have HO2:=Hm (HO1.out.alloc (.cells #[.int .u8 110] 5))
  go_enter Tryz.func103,Tryz.ntmps103
  have gX:=HX1.out.cell
  have zX:=HX1.out.lt
  have c0:=HB1.out.cell0
  have z0:=HB1.out.lt
  go_wp2_with (at_builtin;refine wpList_app_b rfl _ _ rfl (g+1) (.slice va lv vc) l rfl HO2.out (.slice (some ⟨w.heap.size+1,0,none⟩) 1 1) [110] rfl ?c1 ?c2 ?c3 ?_)
  case c1=>
   have h1:=NB.one (w.alloc (.cells #[.int .u8 0, .int .u8 ty, .int .i64 n, .complex .f64 x y, .string s] 164)) 110
   rwa [World.size_alloc] at h1
  case c2=>simp only [List.length_cons,List.length_nil];omega
  case c3=>have:=HGL.out;simp;omega
  intro v' w4 ho4 hg4 ha4
  have HP:=Hm (WB.put HB2.out HO2.out ho4 hg4 (ha4.imp (fun e=>e) (fun ⟨b,e,hb⟩=>⟨b,e,by simp;omega⟩)))
  have HB4:=Hm (HB2.out.kp (Kp.of_grown hg4) (fun e=>by have:=(owns_lt3 HO2.out e).1;omega))
  obtain ⟨a4,c4,rfl⟩:=ho4.shape
  obtain ⟨ln,hln⟩:∃L,L=(l++ [110]).length:=⟨_,rfl⟩
  rw [←hln] at HP⊢
  clear gX zX c0 z0 ho4 hg4 ha4 hln
  have gw:=HB4.out.cell0
  have gwf:=HB4.out.frozen
  have zw:=HB4.out.lt
  go_wp2
  go_end0
  exact ⟨rfl,_,by rw [HR.out];exact HP.out.1,HP.out.2.pre (((Ext.refl w).alloc _).alloc _)⟩
 have HC1:=Hm (HCW.out.trans (if_neg h0))
 have k0:(k==0)=false:=by simpa using h0
 clear HCW h0
 by_cases h1:k=1
 ·subst h1
  have HR:=Hm (HC1.out.trans (if_pos rfl))
  clear HC1 HSP HSL
  have HB2:=Hm (HB1.out.alloc (.cells #[.int .u8 117] 5))
  have HO2:=Hm (HO1.out.alloc (.cells #[.int .u8 117] 5))
  go_enter Tryz.func103,Tryz.ntmps103
  have gX:=HX1.out.cell
  have zX:=HX1.out.lt
  have c0:=HB1.out.cell0
  have z0:=HB1.out.lt
  go_wp2_with (at_builtin;refine wpList_app_b rfl _ _ rfl (g+1) (.slice va lv vc) l rfl HO2.out (.slice (some ⟨w.heap.size+1,0,none⟩) 1 1) [117] rfl ?c1 ?c2 ?c3 ?_)
  case c1=>
   have h1:=NB.one (w.alloc (.cells #[.int .u8 1, .int .u8 ty, .int .i64 n, .complex .f64 x y, .string s] 164)) 117
   rwa [World.size_alloc] at h1
  case c2=>simp only [List.length_cons,List.length_nil];omega
  case c3=>have:=HGL.out;simp;omega
  intro v' w4 ho4 hg4 ha4
  have HP:=Hm (WB.put HB2.out HO2.out ho4 hg4 (ha4.imp (fun e=>e) (fun ⟨b,e,hb⟩=>⟨b,e,by simp;omega⟩)))
  have HB4:=Hm (HB2.out.kp (Kp.of_grown hg4) (fun e=>by have:=(owns_lt3 HO2.out e).1;omega))
  obtain ⟨a4,c4,rfl⟩:=ho4.shape
  obtain ⟨ln,hln⟩:∃L,L=(l++ [117]).length:=⟨_,rfl⟩
  rw [←hln] at HP⊢
  clear gX zX c0 z0 ho4 hg4 ha4 hln
  have gw:=HB4.out.cell0
  have gwf:=HB4.out.frozen
  have zw:=HB4.out.lt
  go_wp2
  go_end0
  exact ⟨rfl,_,by rw [HR.out];exact HP.out.1,HP.out.2.pre (((Ext.refl w).alloc _).alloc _)⟩
 have HR:=Hm (HC1.out.trans (if_neg h1))
 have k1:(k==1)=false:=by simpa using h1
 clear HC1 h1
 have HFM:=Hm (fun W=>form_any ty W)
 obtain ⟨f,hf⟩:∃f,f=formI ty:=⟨_,rfl⟩
 obtain ⟨sp,hsp⟩:∃z,z=spellL ty n x y s:=⟨_,rfl⟩
 rw [←hf] at HFM HR
 have hiB:=spellL_isB ty n x y s
 rw [←hsp] at HSL HSP HR hiB
 have HIB:=Hm (strL_strO hiB)
 clear hf hsp hiB
 have HSZ:=Hm (strO_size sp)
 obtain ⟨st,hst⟩:∃z,z=strOfNums sp:=⟨_,rfl⟩
 rw [←hst] at HSP HSZ HIB
 have HST:=Hm hst
 clear hst
 go_enter Tryz.func103,Tryz.ntmps103
 have gX:=HX1.out.cell
 have zX:=HX1.out.lt
 go_upto_region 3 with (go_at_call 133;refine (HSP.out _ (by exact eX)).mono ?_;rintro e w2 ⟨rfl,hb2⟩;have HB2:=Hm hb2;clear hb2)
 clear gX zX
 have HEb:=Hm (show Ext w w2 from HE1.out.trans HB2.out)
 have HX2:=Hm (HX1.out.ext HB2.out)
 have HBg:=Hm (HB1.out.ext HB2.out)
 have HOg:=Hm (HO1.out.ext HB2.out)
 have hA0:Hid ((fun w' =>w'.cell? ⟨g,0,none⟩=some (.slice va lv vc)∧g<w'.heap.size∧w'.cell? ⟨w.heap.size,1,none⟩=some (.int .u8 ty)∧w.heap.size<w'.heap.size) w2.drew):=Hm ⟨HBg.out.cell0,HBg.out.lt,HX2.out.cell 1,HX2.out.lt⟩
 refine wp_region_head 11 (fun w' =>w'.cell? ⟨g,0,none⟩=some (.slice va lv vc)∧g<w'.heap.size∧w'.cell? ⟨w.heap.size,1,none⟩=some (.int .u8 ty)∧w.heap.size<w'.heap.size) (by kernel_rfl) (by decide) ?_
 (refine wpHd_take (i:=0) (v:= ?_) rfl (by kernel_rfl) (by kernel_rfl) (by kernel_rfl) (fun _ _ _ h=>h) (Or.inl ⟨by rfl, ?_⟩) hA0.out ?_;rotate_left 1; · (intro w' hS';(try dsimp only at hS');go_split_ands;go_simp;try with_reducible rfl))
 (refine wpHd_take (i:=1) (v:= ?_) rfl (by kernel_rfl) (by kernel_rfl) (by kernel_rfl) (fun _ _ _ h=>h) (Or.inl ⟨by rfl, ?_⟩) hA0.out ?_;rotate_left 1; · (intro w' hS';(try dsimp only at hS');go_split_ands;go_simp;try with_reducible rfl))
 (refine wpHd_take (i:=2) (v:= ?_) rfl (by kernel_rfl) (by kernel_rfl) (by kernel_rfl) (fun _ _ _ h=>h) (Or.inl ⟨by rfl, ?_⟩) hA0.out ?_;rotate_left 1; · (intro w' hS';(try dsimp only at hS');go_split_ands;go_simp;try with_reducible rfl))
 (refine wpHd_take (i:=3) (v:= ?_) rfl (by kernel_rfl) (by kernel_rfl) (by kernel_rfl) (fun _ _ _ h=>h) (Or.inl ⟨by rfl, ?_⟩) hA0.out ?_;rotate_left 1; · (intro w' hS';(try dsimp only at hS');go_split_ands;go_simp;try with_reducible rfl))
 (refine wpHd_take (i:=4) (v:= ?_) rfl (by kernel_rfl) (by kernel_rfl) (by kernel_rfl) (fun _ _ _ h=>h) (Or.inl ⟨by rfl, ?_⟩) hA0.out ?_;rotate_left 1; · (intro w' hS';(try dsimp only at hS');go_split_ands;go_simp;try with_reducible rfl))
 (refine wpHd_take (i:=5) (v:= ?_) rfl (by kernel_rfl) (by kernel_rfl) (by kernel_rfl) (fun _ _ _ h=>h) (Or.inl ⟨by rfl, ?_⟩) hA0.out ?_;rotate_left 1; · (intro w' hS';(try dsimp only at hS');go_split_ands;go_simp;try with_reducible rfl))
 (refine wpHd_take (i:=6) (v:= ?_) rfl (by kernel_rfl) (by kernel_rfl) (by kernel_rfl) (fun _ _ _ h=>h) (Or.inl ⟨by rfl, ?_⟩) hA0.out ?_;rotate_left 1; · (intro w' hS';(try dsimp only at hS');go_split_ands;go_simp;try with_reducible rfl))
 (refine wpHd_take (i:=7) (v:= ?_) rfl (by kernel_rfl) (by kernel_rfl) (by kernel_rfl) (fun _ _ _ h=>h) (Or.inl ⟨by rfl, ?_⟩) hA0.out ?_;rotate_left 1; · (intro w' hS';(try dsimp only at hS');go_split_ands;go_simp;try with_reducible rfl))
 refine wpHd_one (i:=8) rfl rfl (by kernel_rfl) (fun KK hK=> ?_)
 go_simp
 refine (HFM.out _).mono ?_
 rintro e w3 ⟨rfl,hb3⟩
 have HB3:=Hm (show Ext w2 w3 by exact eX)
 refine hK.out _ _ ⟨(HBg.out.ext HB3.out).cell0,(HBg.out.ext HB3.out).lt,(HX2.out.ext HB3.out).cell 1,(HX2.out.ext HB3.out).lt⟩ (fun hA=> ?_)
 clear hK KK hA hA0 hb3
 refine wpHd_one (i:=9) rfl rfl (by kernel_rfl) (fun KK hK=> ?_)
 go_simp
 have HB4:=Hm (show Ext w2 (w3.alloc (.cells #[.int .u8 f] 5)) from HB3.out.alloc _)
 have HBh:=Hm (HBg.out.ext HB4.out)
 have HOh:=Hm (HOg.out.ext HB4.out)
 refine hK.out _ _ ⟨HBh.out.cell0,HBh.out.lt,(HX2.out.ext HB4.out).cell 1,(HX2.out.ext HB4.out).lt⟩ (fun hA=> ?_)
 clear hK KK hA
 refine wpHd_one (i:=10) rfl rfl (by kernel_rfl) (fun KK hK=> ?_)
 refine wp_app_bytes (.tmp 18) (.tmp 23) ?ho (g+1) (.slice va lv vc) l ?ev1 HOh.out (.slice (some ⟨w3.heap.size,0,none⟩) 1 1) [f] ?ev2 ?c1 ?c2 ?c3 ?_
 case ho=>rfl
 case ev1=>(try go_simp);(try rfl)
 case ev2=>(try go_simp);(try rfl)
 case c1=>exact NB.one w3 f
 case c2=>simp only [List.length_cons,List.length_nil];omega
 case c3=>have:=HBh.out.lt;omega
 intro v' w4 ho4 hg4 ha4
 obtain ⟨a4,c4,rfl⟩:=ho4.shape
 have HP:=Hm (WB.put HBh.out HOh.out ho4 hg4 ha4)
 have HB5:=Hm (HBh.out.kp (Kp.of_grown hg4) (fun e=>by have:=(owns_lt3 HOh.out e).1;omega))
 have HX5:=Hm ((HX2.out.ext HB4.out).kp (Kp.of_grown hg4) (fun e=>HNW.out (.inr e)))
 refine hK.out _ _ ⟨HB5.out.cell0,HB5.out.lt,HX5.out.cell 1,HX5.out.lt⟩ (fun hA=> ?_)
 obtain ⟨ln,hln⟩:∃L,L=(l++ [f]).length:=⟨_,rfl⟩
 rw [←hln] at HP⊢
 clear hK KK hA ho4 hg4 ha4 hln
 have gw:=HB5.out.cell0
 have gwf:=HB5.out.frozen
 have zw:=HB5.out.lt
 have hsz:st.size≤3000:=by have h1:=HSZ.out;have h2:=HSL.out;omega
 have w1:=u64_small (n:=(st.size:Int)) (by omega) (by omega)
 refine wpHd_tail (by kernel_rfl) ?_
 simp only [List.drop_succ_cons,List.drop_zero]
 go_upto_region 5 with (go_at_call 39;refine (number_any g _ (l++ [f]) st.size 4 _ HP.out.1 (by rw [List.length_append,List.length_singleton];omega) (by omega) (by omega)).mono ?_;rintro e w6 ⟨rfl,q6,hw6,hr6⟩;have HW6:=Hm hw6;have HR6:=Hm hr6;clear hw6 hr6 gw gwf zw)
 obtain ⟨v6,hb6,ho6,rfl⟩:=HW6.out
 obtain ⟨va6,vc6,rfl⟩:=ho6.shape
 obtain ⟨lv6,hlv6⟩:∃L,L=(l++ [f]++octs st.size 4).length:=⟨_,rfl⟩
 rw [←hlv6] at hb6 ho6 HR6
 have HB6:=Hm hb6
 have HO6:=Hm ho6
 have c0:=hb6.cell0
 have cf:=hb6.frozen
 have z0:=hb6.lt
 have HL6:=Hm hlv6
 clear hb6 ho6 hlv6
 go_wp2_with (at_builtin;refine wpList_app_str rfl _ _ rfl (g+1) _ _ rfl HO6.out st rfl ?c1 ?c2 ?_)
 case c1=>simp only [List.length_append,List.length_singleton,octs_len];omega
 case c2=>omega
 intro v7 w7 ho7 hg7 ha7
 rw [show l++f::(octs st.size 4++strL st)=(l++ [f]++octs st.size 4)++strL st by simp] at ho7
 have HQ:=Hm (WB.put HB6.out HO6.out ho7 hg7 ha7)
 have HB7:=Hm (HB6.out.kp (Kp.of_grown hg7) (fun e=>by have:=(owns_lt3 HO6.out e).1;omega))
 obtain ⟨a7,c7,rfl⟩:=ho7.shape
 obtain ⟨ln7,hln7⟩:∃L,L=((l++ [f]++octs st.size 4)++strL st).length:=⟨_,rfl⟩
 rw [←hln7] at HQ⊢
 clear c0 cf z0 ho7 hg7 ha7 hln7
 have gw:=HB7.out.cell0
 have gwf:=HB7.out.frozen
 have zw:=HB7.out.lt
 go_wp2
 go_end0
 refine ⟨rfl,_, ?_,(((Wr.of_ext HB4.out).trans HP.out.2).trans (HR6.out.trans HQ.out.2)).pre HEb.out⟩
 have h9:=HQ.out.1
 rw [HIB.out,HSZ.out] at h9
 rw [HR.out]
 simpa using h9
structure Rf.u32 (r:Rf):Prop where
 o:0≤r.o∧r.o<4294967296
 v:0≤r.v∧r.v<4294967296
open Go.RowKit Go.ChangeShapes Go.WideShapes Go.ChangeAt
section
variable {H : Type} {enc : TypeId × Value → H} {P : Program} {w : World} {base : Nat} {spare : Nat → Bool} {held : Bool}
def Lf (enc:TypeId×Value→H) (P:Program) (w:World) (base:Nat) (spare:Nat→Bool) (held:Bool) (t:TypeId) (c:Value):Prop:=∃n x,DataW.trod enc P w base spare held n t [c]=some x
def Lfs (enc:TypeId×Value→H) (P:Program) (w:World) (base:Nat) (spare:Nat→Bool) (held:Bool):List TypeId→List Value→Prop
 | [], []=>True
 |t::ts,c::cs=>Lf enc P w base spare held t c∧Lfs enc P w base spare held ts cs
 |_,_=>False
theorem Lfs.append:∀(ts us:List TypeId) (cs:List Value),Lfs enc P w base spare held ts (cs.take ts.length)→Lfs enc P w base spare held us (cs.drop ts.length)→Lfs enc P w base spare held (ts++us) cs
 | [],us,cs,_,h=>by simpa using h
 |t::ts,us, [],h,_=>by simp [Lfs] at h
 |t::ts,us,c::cs,h,h' =>by
  simp only [List.length_cons,List.take_succ_cons,Lfs] at h
  exact ⟨h.1,Lfs.append ts us cs h.2 (by simpa using h')⟩
def offs (P:Program):Nat→List Field→List (List TypeId)→Bool
 |_, [], []=>true
 |o,f::fs,l::ls=>f.offset==o&&P.cellsOf f.type==l.length&&offs P (o+l.length) fs ls
 |_,_,_=>false
def flat (P:Program):Nat→TypeId→Option (List TypeId)
 |0,_=>none
 |k+1,t=>
  match P.underlying t with
  |some (.struct fs)=>(fs.toList.mapM fun f=>flat P k f.type).bind fun ls=>if offs P 0 fs.toList ls&&P.cellsOf t==ls.flatten.length then some ls.flatten else none
  |some (.array n e)=>(flat P k e).bind fun l=>if P.cellsOf e==l.length&&P.cellsOf t==n*l.length then some (List.replicate n l).flatten else none
  |_=>some [t]
theorem trod_single {n:Nat} {t:TypeId} {cs:List Value} {x:DataW H×List MemPlace} (h:DataW.trod enc P w base spare held n t cs=some x)
 (h1:∀fs,P.underlying t≠some (.struct fs)) (h2:∀n e,P.underlying t≠some (.array n e)):∃c,cs= [c]:=by
 cases n with
 |zero=>simp [DataW.trod] at h
 |succ n=>
  unfold DataW.trod at h
  split at h
  all_goals first
   |exact ⟨_,rfl⟩
   |(rename_i h3;exact absurd h3 (h1 _))
   |(rename_i h3;exact absurd h3 (h2 _ _))
   |simp at h
theorem offs_open (k:Nat) (ih:∀(t:TypeId) (ts:List TypeId) (n:Nat) (cs:List Value) (x:DataW H×List MemPlace),flat P k t=some ts→DataW.trod enc P w base spare held n t cs=some x→Lfs enc P w base spare held ts cs)
 (n:Nat) (cs:List Value):∀(fs:List Field) (ls:List (List TypeId)) (o:Nat),offs P o fs ls=true→(fs.mapM fun f=>flat P k f.type)=some ls→
 cs.length=o+ls.flatten.length→
 (∀f∈fs,∃y,DataW.trod enc P w base spare held n f.type ((cs.drop f.offset).take (P.cellsOf f.type))=some y)→Lfs enc P w base spare held ls.flatten (cs.drop o):=by
 intro fs
 induction fs with
 |nil=>
  intro ls o ho hm hl _
  cases ls with
  |nil=>simp at hl;rw [List.drop_eq_nil_of_le (by omega)];trivial
  |cons l ls=>simp [offs] at ho
 |cons f fs ih2=>
  intro ls o ho hm hl hf
  cases ls with
  |nil=>simp [offs] at ho
  |cons l ls=>
   simp only [offs,Bool.and_eq_true,beq_iff_eq] at ho
   obtain ⟨⟨ho1,ho2⟩,ho3⟩:=ho
   simp only [List.mapM_cons,Option.bind_eq_bind,Option.bind_eq_some_iff,Option.pure_def,Option.some.injEq,List.cons.injEq] at hm
   obtain ⟨l',h1,ls',h2,rfl,rfl⟩:=hm
   obtain ⟨y,hy⟩:=hf f (by simp)
   rw [ho1,ho2] at hy
   have a1:=ih f.type l' n _ y h1 hy
   simp only [List.flatten_cons,List.length_append] at hl
   have a2:=ih2 ls' (o+l'.length) ho3 h2 (by omega) (fun g hg=>hf g (by simp [hg]))
   rw [List.flatten_cons]
   exact Lfs.append l' ls'.flatten _ a1 (by rw [List.drop_drop];exact a2)
theorem arr_open (l:List TypeId) (e:TypeId) (n:Nat) (he:P.cellsOf e=l.length) (h1:∀cs x,DataW.trod enc P w base spare held n e cs=some x→Lfs enc P w base spare held l cs) (cs:List Value):
 ∀(m i:Nat),cs.length=(i+m)*l.length→(∀j,i≤j→j<i+m→∃y,DataW.trod enc P w base spare held n e ((cs.drop (j*P.cellsOf e)).take (P.cellsOf e))=some y)→
 Lfs enc P w base spare held (List.replicate m l).flatten (cs.drop (i*l.length)):=by
 intro m
 induction m with
 |zero=>intro i hl _;rw [List.drop_eq_nil_of_le (by simp at hl;omega)];simp [Lfs]
 |succ m ih=>
  intro i hl hf
  obtain ⟨y,hy⟩:=hf i (by omega) (by omega)
  rw [he] at hy
  have a1:=h1 _ y hy
  have a2:=ih (i+1) (by rw [hl];congr 1;omega) (fun j h1 h2=>hf j (by omega) (by omega))
  rw [List.replicate_succ,List.flatten_cons]
  refine Lfs.append l _ _ a1 ?_
  rw [List.drop_drop,←Nat.succ_mul]
  exact a2
theorem flat_open (k:Nat):∀(t:TypeId) (ts:List TypeId) (n:Nat) (cs:List Value) (x:DataW H×List MemPlace),flat P k t=some ts→DataW.trod enc P w base spare held n t cs=some x→Lfs enc P w base spare held ts cs:=by
 induction k with
 |zero=>intro t ts n cs x h;simp [flat] at h
 |succ k ih=>
  intro t ts n cs x h hx
  unfold flat at h
  split at h
  ·rename_i fs hu
   obtain ⟨xs,m,_,rfl,hlen,hxl,hf⟩:=DataW.trod_struct hu hx
   simp only [Option.bind_eq_some_iff] at h
   obtain ⟨ls,hm,h⟩:=h
   split at h
   ·rename_i hc
    rw [Bool.and_eq_true,beq_iff_eq] at hc
    cases h
    have:=offs_open k ih m cs fs.toList ls 0 hc.1 hm (by rw [hlen,hc.2,Nat.zero_add]) (fun f hfm=>by
     obtain ⟨i,hi,hif⟩:=List.mem_iff_getElem.1 hfm
     have hi' :i<fs.size:=by simpa using hi
     have g:fs[i]? =some f:=by rw [←hif];simp [hi']
     have:=hf i f g
     rw [List.getElem?_eq_getElem (by omega)] at this
     exact ⟨_,this⟩)
    simpa using this
   ·cases h
  ·rename_i m e hu
   obtain ⟨xs,q,_,rfl,hlen,hxl,hf⟩:=DataW.trod_array hu hx
   simp only [Option.bind_eq_some_iff] at h
   obtain ⟨l,hl,h⟩:=h
   split at h
   ·rename_i hc
    rw [Bool.and_eq_true,beq_iff_eq,beq_iff_eq] at hc
    cases h
    have:=arr_open (enc:=enc) (P:=P) (w:=w) (base:=base) (spare:=spare) (held:=held) l e q hc.1 (fun cs y hy=>ih e l q cs y hl hy) cs m 0 (by rw [hlen,hc.2,Nat.zero_add]) (fun j _ hj=>by
     have:=hf j (by omega)
     rw [List.getElem?_eq_getElem (by omega)] at this
     exact ⟨_,this⟩)
    simpa using this
   ·cases h
  ·rename_i h1 h2
   cases h
   obtain ⟨c,rfl⟩:=trod_single hx (fun fs e=>h1 fs e) (fun n e he=>h2 n e he)
   exact ⟨⟨n,x,hx⟩,trivial⟩
theorem Lf.int {t:TypeId} {c:Value} {k:IntKind} (h:Lf enc P w base spare held t c) (ht:P.underlying t=some (.int k)):∃n,c= .int k n∧(Lit.int k n).wf=true:=by
 obtain ⟨m,x,h⟩:=h
 obtain ⟨n,h1,_,h3⟩:=DataW.trod_int ht h
 cases h1
 exact ⟨n,rfl,h3⟩
theorem Lf.string {t:TypeId} {c:Value} (h:Lf enc P w base spare held t c) (ht:P.underlying t=some .string):∃s:ByteArray,c= .string s∧s.size≤9223372036854775807:=by
 obtain ⟨m,x,h⟩:=h
 obtain ⟨n,h1,_,h3⟩:=DataW.trod_string ht h
 cases h1
 exact ⟨n,rfl,h3⟩
theorem Lf.bool {t:TypeId} {c:Value} (h:Lf enc P w base spare held t c) (ht:P.underlying t=some .bool):∃b:Bool,c= .bool b:=by
 obtain ⟨m,x,h⟩:=h
 obtain ⟨n,h1,_⟩:=DataW.trod_bool ht h
 cases h1
 exact ⟨n,rfl⟩
theorem trod_sl {T E:TypeId} {k n:Nat} {cs:List Value} {x:DataW H×List MemPlace} (ht:P.underlying T=some (.slice E)) (hk:P.cellsOf E=k) (hk0:0<k) (h:DataW.trod enc P w base spare held n T cs=some x):
 ∃v xss,cs= [v]∧Sl w v k xss∧xss.length≤9223372036854775807∧∀xs∈xss,xs.length=k∧∃n x,DataW.trod enc P w base spare held n E xs=some x:=by
 rcases Go.Deep.open_slice ht h with ⟨rfl,_⟩|⟨a,len,cap,m,q,D,Pl,rfl,hb,hl,hm,hmm,_,hx⟩
 ·exact ⟨_, [],rfl,⟨none,0,rfl, .inl rfl⟩,by simp,by simp⟩
 ·have hlm:len≤m:=by rw [hmm];split<;>omega
  have hall:∀i,i<len→∃cs',w.cells? base (a.add (i*k)) k=some cs'∧DataW.trod enc P w base spare held q E cs' =some (D i,Pl i):=fun i hi=>by
   have:=hx i (by omega);rwa [hk] at this
  obtain ⟨C,hC⟩:=Go.Deep.choose_lt hall
  have hcl:cap≤9223372036854775807:=hm
  refine ⟨_,(List.range len).map C,rfl, ?_,by simp;omega, ?_⟩
  ·refine ⟨some a,cap,by simp, ?_⟩
   by_cases h0:len=0
   ·subst h0;exact .inl rfl
   ·right
    have hc0:=(World.cells?_some (hC 0 (by omega)).1)
    have e0:(a.add (0*k)).add 0=a:=by unfold Addr.add;simp
    have hcell:(w.cell? a).isSome=true:=by
     have:=hc0.2.2 0 hk0
     rw [e0] at this
     rw [this,List.getElem?_eq_getElem (by omega)];rfl
    have hsp:a.spot=none:=by
     unfold World.cell? at hcell
     split at hcell
     ·split at hcell
      ·simp at hcell
      ·rename_i hs;simpa using hs
     ·simp at hcell
    have hlt:a.block<w.heap.size:=by
     unfold World.cell? at hcell
     rcases Nat.lt_or_ge a.block w.heap.size with h1|h1
     ·exact h1
     ·rw [Array.getElem?_eq_none h1] at hcell;simp at hcell
    refine ⟨a.block,a.off,by cases a;simp at hsp;subst hsp;rfl,hlt, ?_⟩
    intro i hi j hj
    simp only [List.length_map,List.length_range] at hi
    have h2:=(World.cells?_some (hC i hi).1).2.2 j hj
    rw [Go.Deep.add_add] at h2
    have e:a.add (i*k+j)=⟨a.block,a.off+i*k+j,none⟩:=by
     unfold Addr.add
     split
     ·rename_i hz
      have h3:i*k=0:=by omega
      have h4:j=0:=by omega
      cases a;simp at hsp;subst hsp;simp [h3,h4]
     ·cases a;simp at hsp;subst hsp;simp
    rw [e] at h2
    rw [h2]
    simp [hi]
  ·intro xs hxs
   simp only [List.mem_map,List.mem_range] at hxs
   obtain ⟨i,hi,rfl⟩:=hxs
   exact ⟨(World.cells?_some (hC i hi).1).2.1,_,_,(hC i hi).2⟩
theorem exists_map {α β:Type} {f:α→β} {p:α→Prop} :∀(l:List β),(∀y∈l,∃x,y=f x∧p x)→∃l' :List α,l=l'.map f∧∀x∈l',p x
 | [],_=>⟨[],rfl,by simp⟩
 |y::l,h=>by
  obtain ⟨x,hx,hp⟩:=h y (by simp)
  obtain ⟨l',hl,hl'⟩:=exists_map l (fun z hz=>h z (by simp [hz]))
  exact ⟨x::l',by rw [hx,hl];rfl,by intro z hz;rcases List.mem_cons.1 hz with rfl|hz;exact hp;exact hl' z hz⟩
theorem trodAll_stays {W W' :World} (hl:laidOutB P=true) (hE:Ext W W'):∀(ts:List TypeId) (vs:List Value) (ds:List (DataW H)) (ps:List MemPlace),(∀t∈ts,P.readableRec t=true∧t<P.types.size)→
 DataW.TrodAll enc P W 0 (fun _=>true) true ts vs ds ps→(∀x∈ps,x.block<W.heap.size)→DataW.TrodAll enc P W' 0 (fun b=>decide (b<W.heap.size)) true ts vs ds ps
 | [], [], [],ps,_,h,_=>h
 |t::ts,v::vs,d::ds,ps,hr,h,hlt=>by
  obtain ⟨p,q,h1,h2,rfl⟩:=h
  refine ⟨p,q,Below.trod hl (hr t (by simp)).1 (hr t (by simp)).2 h1 hE (fun x hx=>hlt x (by simp [hx])), ?_,rfl⟩
  exact trodAll_stays hl hE ts vs ds q (fun u hu=>hr u (by simp [hu])) h2 (fun x hx=>hlt x (by simp [hx]))
 | [],_::_,_,_,_,h,_=>by simp [DataW.TrodAll] at h
 | [], [],_::_,_,_,h,_=>by simp [DataW.TrodAll] at h
 |_::_, [],_,_,_,h,_=>by simp [DataW.TrodAll] at h
 |_::_,_::_, [],_,_,h,_=>by simp [DataW.TrodAll] at h
theorem post_law {f:Func} {s:ChangeSpec} {apart:Bool} {W W' :World} {args:Array Value} {ds gs:List (DataW H)} {before:List MemPlace} {tb:TypeId}
 (hl:laidOutB P=true) (hb:P.underlying tb=some .bool) (hrt:f.resultTypes= #[tb]) (hr:f.params.toList.all (fun t=>P.readableRec t&&decide (t<P.types.size))=true) (hv:s.vars= [])
 (hW:DataW.Whole enc P f.params.toList s.vars apart W args.toList ds gs before)
 (h1:(s.fn H (ds++gs)).results= [.lit (.bool true)]) (h2:(s.fn H (ds++gs)).args=ds) (h3:(s.fn H (ds++gs)).vars= []) (hE:Ext W W'):
 s.post enc P f apart true false false W args (.bool true) W' :=by
 have hW' :=hW
 have hlt:=hW.lt
 obtain ⟨p,q,hA,hV,rfl,_,_⟩:=hW
 refine ⟨ds,gs,p++q, [],p, [],hW', ?_, ?_, ?_,Below.frame hE _,fun h=>by cases h⟩
 ·rw [h1,hrt]
  exact trodAll_mk1 (shut_bool hb true)
 ·rw [h2]
  refine trodAll_stays hl hE _ _ _ _ (fun t ht=> ?_) hA (fun x hx=>by simpa using hlt x (by simp [hx]))
  have:=List.all_eq_true.1 hr t ht
  simpa using this
 ·rw [hv,h3];rfl
end
end Go.Proofs.YtgmphpccpfaapaaGreatDoor
