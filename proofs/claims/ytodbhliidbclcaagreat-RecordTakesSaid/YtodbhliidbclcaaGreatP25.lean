/-
The next row of a relation: the reference's Take.
-/
import Derived.Test.YtodbhliidbclcaaGreatP24
set_option maxRecDepth 100000
set_option maxHeartbeats 16000000
namespace Go.Proofs.YtodbhliidbclcaaGreat
open Go.RowKit
theorem owns_six {W:World} {base X:Nat} {e:TypeId} {size n:Nat} {v:Value} {xs:List Value} {v0 v1 v2 v3 v4 v5:Value} (h:W.ownsRow base e size v n xs) (hX:∀k,v.ownBlock=some k→k≠X):
 ((((((W.setCell ⟨X,0,none⟩ v0).setCell ⟨X,1,none⟩ v1).setCell ⟨X,2,none⟩ v2).setCell ⟨X,3,none⟩ v3).setCell ⟨X,4,none⟩ v4).setCell ⟨X,5,none⟩ v5).ownsRow base e size v n xs:=
 owns_far (owns_five h hX) hX _ _
theorem sl_bytesWorld (w:World) (s:ByteArray) (c:Nat):Sl (Go.Lib.bytesWorld w 5 s) (.slice (some ⟨w.heap.size,0,none⟩) s.size c) 1 ((strL s).map bcell):=by
 refine ⟨_,c,by rw [List.length_map,strL_len], .inr ⟨w.heap.size,0,rfl,by rw [Go.Lib.bytesWorld_size];omega,fun i hi j hj=> ?_⟩⟩
 obtain rfl:j=0:=by omega
 rw [List.length_map,strL_len] at hi
 rw [Nat.zero_add,Nat.mul_one,Nat.add_zero,Go.Lib.bytesWorld_cell w _ s i hi,getD_map bcell (strL s) (by rw [strL_len];exact hi)]
 have h:i<s.data.toList.length:=by simpa using hi
 have h2:i<s.data.size:=by simpa using h
 simp [strL,bcell]
 rw [Array.getElem?_eq_getElem h2]
 rfl
def RTkPost (R:(List K×List Ho)×RS) (g d:Nat) (w:World) (e:Ending) (w' :World):Prop:=
 ∃a1 c1 a2 c2,e= .returned (.tuple #[.slice a1 R.1.1.length c1, .slice a2 R.1.2.length c2])∧Sl w' (.slice a1 R.1.1.length c1) 6 (R.1.1.map K.rc)∧Sl w' (.slice a2 R.1.2.length c2) 2 (R.1.2.map Ho.cells)∧
  (∀k o,a1=some ⟨k,o,none⟩→w.heap.size≤k)∧(∀k o,a2=some ⟨k,o,none⟩→w.heap.size≤k)∧RF w' g d R.2∧Tch g w w'
def RTkPostN (R:(List K×List Ho)×RS) (g d:Nat) (w:World) (e:Ending) (w' :World):Prop:=
 ∃a1 c1 a2 c2,e= .returned (.tuple #[.slice a1 R.1.1.length c1, .slice a2 R.1.2.length c2])∧Sl w' (.slice a1 R.1.1.length c1) 6 (R.1.1.map K.rc)∧Sl w' (.slice a2 R.1.2.length c2) 2 (R.1.2.map Ho.cells)∧
  (∀k o,a1=some ⟨k,o,none⟩→w.heap.size≤k)∧(∀k o,a2=some ⟨k,o,none⟩→w.heap.size≤k)∧RF w' g d R.2∧Tch g w w'∧((a1=none→c1=0)∧(a2=none→c2=0))
theorem owns_nil0 {W:World} {base n k c:Nat} {e:TypeId} {a:Option Addr} {xs:List Value} (h:W.ownsRow base e k (.slice a n c) n xs):a=none→c=0:=by
 intro ha
 subst ha
 rcases h.2 with ⟨hv, -⟩|⟨g,cap,cur,hv, -⟩
 ·simp only [Value.slice.injEq] at hv;exact hv.2.2
 ·simp only [Value.slice.injEq] at hv;exact absurd hv.1 (by simp)
theorem RTkPost.bad {R:(List K×List Ho)×RS} {S:RS} {g d:Nat} {w w' :World} (h:R=(([], []),S)) (hr:RF w' g d S) (ht:Tch g w w'):RTkPostN R g d w (.returned (.tuple #[.slice none 0 0, .slice none 0 0])) w' :=by
 subst h
 exact ⟨none,0,none,0,rfl,⟨none,0,rfl, .inl rfl⟩,⟨none,0,rfl, .inl rfl⟩,(fun _ _ e=>by cases e),(fun _ _ e=>by cases e),hr,ht,(fun _=>rfl),(fun _=>rfl)⟩
theorem rc_len {l:List K} :∀xs∈l.map K.rc,xs.length=6:=by intro xs hxs;simp at hxs;obtain ⟨a,_,rfl⟩:=hxs;rfl
theorem rrowtakeN_any (g d:Nat) (st:RS) (oid ver:Int) (nm:ByteArray) (id:Int) (cols:List Col) (a2:Option Addr) (cap2:Nat) (version:Int) (w:World) (h:RF w g d st) (hl2:Sl w (.slice a2 cols.length cap2) 3 (cols.map Col.cells)) (ha2:∀b o,a2=some ⟨b,o,none⟩→cols≠ []→b≠g)
 (hlen2:cols.length≤1000) (hs2:∀c∈cols,c.nm.size≤9223372036854775807) (hnm:nm.size≤9223372036854775807):
 Calls Tryz.prog 31 #[.pointer (some ⟨g,0,none⟩), .agg #[.int .u32 oid, .int .u32 ver, .string nm, .int .u8 id, .slice a2 cols.length cap2], .int .u8 version] w (RTkPostN (takeT (⟨oid,ver,nm,id,cols⟩:Rl) version st) g d w):=by
 have hg:=h.lt
 have hok:=h.ok
 have H:=Hm h
 have HR8:=Hm (fun W (h:Ext w W)=>rright8_any oid ver nm id cols a2 cap2 W (hl2.ext h) hlen2 hnm hs2)
 have HGU:=Hm (fun S x w h hx=>fgive_any g d S x w h hx)
 have HTP:Hid (takeT (⟨oid,ver,nm,id,cols⟩:Rl) version st=_):=Hm (show takeT (⟨oid,ver,nm,id,cols⟩:Rl) version st=if (begR (⟨oid,ver,nm,id,cols⟩:Rl) version st).e≠0 then (([], []),begR (⟨oid,ver,nm,id,cols⟩:Rl) version st) else if (bytesR (mapSize cols.length) (begR (⟨oid,ver,nm,id,cols⟩:Rl) version st)).2.e≠0 then (([], []),(bytesR (mapSize cols.length) (begR (⟨oid,ver,nm,id,cols⟩:Rl) version st)).2)
  else finT (tkUp (unmapL (bytesR (mapSize cols.length) (begR (⟨oid,ver,nm,id,cols⟩:Rl) version st)).1 cols.length).1 cols version (failS (bytesR (mapSize cols.length) (begR (⟨oid,ver,nm,id,cols⟩:Rl) version st)).2 (unmapL (bytesR (mapSize cols.length) (begR (⟨oid,ver,nm,id,cols⟩:Rl) version st)).1 cols.length).2) (unmapL (bytesR (mapSize cols.length) (begR (⟨oid,ver,nm,id,cols⟩:Rl) version st)).1 cols.length).1.length) from rfl)
 have HBR:Hid (begR (⟨oid,ver,nm,id,cols⟩:Rl) version st=if version=1∨version=2 then failS st (Rl.right (⟨oid,ver,nm,id,cols⟩:Rl)) else giveS (failS st (Rl.right (⟨oid,ver,nm,id,cols⟩:Rl))) 18):=Hm rfl
 have HC16:=Hm (right_cols16 (r:=(⟨oid,ver,nm,id,cols⟩:Rl)))
 have HL2:=Hm hl2
 clear h hl2 hs2 hnm
 obtain ⟨E,hE⟩:∃E,E=Rl.right (⟨oid,ver,nm,id,cols⟩:Rl):=⟨_,rfl⟩
 rw [←hE] at HR8 HBR HC16
 clear hE
 by_cases hv:version=1∨version=2
 case neg=>
  have HB2:=Hm (HBR.out.trans (if_neg hv))
  have hne:(begR (⟨oid,ver,nm,id,cols⟩:Rl) version st).e≠0:=by rw [HB2.out];exact give_bad _ (by decide)
  have HT2:=Hm (HTP.out.trans (if_pos hne))
  rw [HB2.out] at HT2 hne
  have hv1:(version !=1)=true:=by simp;omega
  have hv2:(version !=2)=true:=by simp;omega
  clear hv HBR HB2 HTP
  by_cases hE0:E=0
  ·subst hE0
   rw [show failS st 0=st by unfold failS;rw [if_neg (by decide)]] at HT2 hne
   have HG:=Hm (fun w h=>HGU.out st 18 w h (by decide))
   obtain ⟨S,hS⟩:∃S,S=giveS st 18:=⟨_,rfl⟩
   rw [←hS] at HT2 hne HG
   have hne3:(S.e !=0)=true:=by simpa using hne
   clear hne hS
   go_enter Tryz.func31,Tryz.ntmps31
   go_wp2_with (first
    |(go_at_call 57;refine (HR8.out _ (by exact eX)).mono ?_;rintro e w1 ⟨rfl,hb1⟩)
    |(go_at_call 30;refine (HG.out _ (H.out.ext (by exact eX))).mono ?_;rintro e w2 ⟨rfl,hr2,ht2⟩;have bd2:=hr2.bad;have gl2:=hr2.lt;have HR2:=Hm hr2;have HT3:=Hm ((Tch.of_ext (show Ext w w1 by exact eX)).trans ht2);clear hr2 ht2))
   go_ret2
   exact RTkPost.bad HT2.out HR2.out HT3.out
  ·have hE1:(E !=0)=true:=by simpa using hE0
   have hfE:failS st E=giveS st E:=by unfold failS;rw [if_pos hE0]
   rw [hfE] at HT2 hne
   have HG:=Hm (fun w h=>HGU.out st E w h hE0)
   obtain ⟨S1,hS1⟩:∃S1,S1=giveS st E:=⟨_,rfl⟩
   rw [←hS1] at HT2 hne HG
   have HG2:=Hm (fun w h=>HGU.out S1 18 w h (by decide))
   obtain ⟨S,hS⟩:∃S,S=giveS S1 18:=⟨_,rfl⟩
   rw [←hS] at HT2 hne HG2
   have hne3:(S.e !=0)=true:=by simpa using hne
   clear hne hS hS1 hfE hE0
   go_enter Tryz.func31,Tryz.ntmps31
   go_upto_region 4 with (first
    |(go_at_call 57;refine (HR8.out _ (by exact eX)).mono ?_;rintro e w1 ⟨rfl,hb1⟩)
    |(go_at_call 30;refine (HG.out _ (H.out.ext (by exact eX))).mono ?_;rintro e w2 ⟨rfl,hr2,ht2⟩;have HR2:=Hm hr2;have HT3:=Hm ((Tch.of_ext (show Ext w w1 by exact eX)).trans ht2);clear hr2 ht2))
   go_wp2_with (first
    |(go_at_call 30;refine (HG2.out _ HR2.out).mono ?_;rintro e w3 ⟨rfl,hr2,ht2⟩;have bd2:=hr2.bad;have gl2:=hr2.lt;have HR3:=Hm hr2;have HT4:=Hm (HT3.out.trans ht2);clear hr2 ht2))
   go_ret2
   exact RTkPost.bad HT2.out HR3.out HT4.out
 have HB2:=Hm (HBR.out.trans (if_pos hv))
 clear HBR
 rw [HB2.out] at HTP
 by_cases hE0:E=0
 case neg=>
  have hE1:(E !=0)=true:=by simpa using hE0
  have hfE:failS st E=giveS st E:=by unfold failS;rw [if_pos hE0]
  have hne:=give_bad st hE0
  rw [hfE] at HTP
  have HT2:=Hm (HTP.out.trans (if_pos hne))
  have HG:=Hm (fun w h=>HGU.out st E w h hE0)
  obtain ⟨S1,hS1⟩:∃S1,S1=giveS st E:=⟨_,rfl⟩
  rw [←hS1] at HT2 hne HG
  have hne3:(S1.e !=0)=true:=by simpa using hne
  clear hne hS1 hfE hE0 HTP HB2
  rcases hv with rfl|rfl
  all_goals
   go_enter Tryz.func31,Tryz.ntmps31
   go_wp2_with (first
    |(go_at_call 57;refine (HR8.out _ (by exact eX)).mono ?_;rintro e w1 ⟨rfl,hb1⟩)
    |(go_at_call 30;refine (HG.out _ (H.out.ext (by exact eX))).mono ?_;rintro e w2 ⟨rfl,hr2,ht2⟩;have bd2:=hr2.bad;have gl2:=hr2.lt;have HR2:=Hm hr2;have HT3:=Hm ((Tch.of_ext (show Ext w w1 by exact eX)).trans ht2);clear hr2 ht2))
   go_ret2
   exact RTkPost.bad HT2.out HR2.out HT3.out
 subst hE0
 rw [show failS st 0=st by unfold failS;rw [if_neg (by decide)]] at HTP
 by_cases he:st.e=0
 case neg=>
  have HT2:=Hm (HTP.out.trans (if_pos he))
  have hne3:(st.e !=0)=true:=by simpa using he
  have bd2:=H.out.bad
  clear he HTP HB2
  rcases hv with rfl|rfl
  all_goals
   go_enter Tryz.func31,Tryz.ntmps31
   go_wp2_with (go_at_call 57;refine (HR8.out _ (by exact eX)).mono ?_;rintro e w1 ⟨rfl,hb1⟩;have hR1:=H.out.ext (show Ext w w1 by exact eX);have bd3:=hR1.bad;have gl3:=hR1.lt;have HR1:=Hm hR1;have HE1:=Hm (show Ext w w1 by exact eX);clear hR1)
   go_ret2
   exact RTkPost.bad HT2.out HR1.out (Tch.of_ext HE1.out)
 have HT2:=Hm (HTP.out.trans (if_neg (by simpa using he)))
 obtain ⟨hc16, -⟩:=HC16.out rfl
 have hc16:cols.length≤16:=hc16
 have hs2:mapSize cols.length≤2:=by unfold mapSize;omega
 have HZ:=Hm (fun w=>rmsize_any cols.length w hc16)
 have HBY:=Hm (fun w h=>fbytes_any g d st (mapSize cols.length) w h (by omega))
 have hne3:(st.e !=0)=false:=by simpa using he
 have hqb:=bytesR_isB hok (mapSize cols.length)
 obtain ⟨Q,hQ⟩:∃Q,Q=bytesR (mapSize cols.length) st:=⟨_,rfl⟩
 rw [←hQ] at HT2 HBY hqb
 have hwu:IntKind.u64.wrap ((mapSize cols.length:Nat):Int)=((mapSize cols.length:Nat):Int):=by rw [u64_wrap];omega
 clear HTP HB2 HC16
 by_cases hq:Q.2.e=0
 case neg=>
  have HT3:=Hm (HT2.out.trans (if_pos hq))
  have hq3:(Q.2.e !=0)=true:=by simpa using hq
  clear hq he hQ hqb HT2
  rcases hv with rfl|rfl
  all_goals
   go_enter Tryz.func31,Tryz.ntmps31
   go_wp2_with (first
    |(go_at_call 57;refine (HR8.out _ (by exact eX)).mono ?_;rintro e w1 ⟨rfl,hb1⟩;have hR1:=H.out.ext (show Ext w w1 by exact eX);have bd3:=hR1.bad;have gl3:=hR1.lt;have HR1:=Hm hR1;have HE1:=Hm hb1;have g0:=((Blk.new w #[.int .u32 oid, .int .u32 ver, .string nm, .int .u8 id, .slice a2 cols.length cap2] 77).ext hb1).cell;have z0:=((Blk.new w #[.int .u32 oid, .int .u32 ver, .string nm, .int .u8 id, .slice a2 cols.length cap2] 77).ext hb1).lt;clear hR1 hb1)
    |(go_at_call 58;refine (HZ.out _).mono ?_;rintro e w2 ⟨rfl,rfl⟩)
    |(go_at_call 55;refine (HBY.out _ HR1.out).mono ?_;rintro e w3 ⟨rfl,hr3,ht3⟩;have bd4:=hr3.bad;have gl4:=hr3.lt;have HR3:=Hm hr3;have HTT:=Hm ((Tch.of_ext (((Ext.refl w).alloc _).trans HE1.out)).trans ht3);clear hr3 ht3))
   go_ret2
   exact RTkPost.bad HT3.out HR3.out HTT.out
 have HT3:=Hm (HT2.out.trans (if_neg (by simpa using hq)))
 have hq3:(Q.2.e !=0)=false:=by simpa using hq
 have hql:Q.1.length=mapSize cols.length:=by
  rw [hQ] at hq⊢
  unfold bytesR at hq⊢
  by_cases hsh:st.l.length<mapSize cols.length
  ·rw [if_pos hsh] at hq;exact absurd hq (give_bad st (by decide))
  ·rw [if_neg hsh];simp;omega
 clear hQ hq HT2
 have hstl:strL (strOfNums Q.1)=Q.1:=strL_strOf hqb
 have hsz:(strOfNums Q.1).size=Q.1.length:=by rw [←strL_len,hstl]
 have HUN:=Hm (fun W a c h=>runpack_any Q.1 cols.length a c W h hqb hc16 hql)
 have hcv:=fun W=>conv_str W (strOfNums Q.1)
 have HSB:=Hm (fun W c=>sl_bytesWorld W (strOfNums Q.1) c)
 rw [hstl] at HSB
 rw [hsz,hql] at HSB hcv
 rw [hql] at HUN
 rw [hql] at hsz
 unfold UnPost at HUN
 have hul:(unmapL Q.1 cols.length).1.length≤cols.length:=by
  unfold unmapL;split
  ·exact Nat.zero_le _
  ·simp [unbits_len]
 have hu0:(unmapL Q.1 cols.length).2=0→(unmapL Q.1 cols.length).1.length=cols.length:=by
  unfold unmapL;split
  ·intro h;cases h
  ·intro _;simp [unbits_len]
 have hLF:(unmapL Q.1 cols.length).2≠0→(unmapL Q.1 cols.length).1= []:=by
  unfold unmapL;split
  ·intro _;rfl
  ·intro h;exact absurd rfl h
 obtain ⟨L,hL⟩:∃L,L=(unmapL Q.1 cols.length).1:=⟨_,rfl⟩
 obtain ⟨F,hF⟩:∃F,F=(unmapL Q.1 cols.length).2:=⟨_,rfl⟩
 rw [←hL,←hF] at HT3 HUN hu0 hLF
 rw [←hL] at hul
 obtain ⟨B,hB⟩:∃B,B=strOfNums Q.1:=⟨_,rfl⟩
 rw [←hB] at HBY hcv HSB hsz
 have HQL:=Hm hql
 have HSZB:=Hm hsz
 clear hL hF hstl hB hqb he hql hsz
 by_cases hF0:F=0
 case neg=>
  have hF3:(F !=0)=true:=by simpa using hF0
  have HG:=Hm (fun w h=>HGU.out Q.2 F w h hF0)
  have hbad:failS Q.2 F=giveS Q.2 F:=by unfold failS;rw [if_pos hF0]
  rw [hbad] at HT3
  have HT4:Hid (takeT (⟨oid,ver,nm,id,cols⟩:Rl) version st=(([], []),giveS Q.2 F)):=Hm (by
   rw [HT3.out,hLF hF0]
   unfold finT
   rw [if_pos (show (tkUp [] cols version (giveS Q.2 F) ([]:List Bool).length).2.e≠0 from give_bad _ hF0)]
   rfl)
  clear HT3 hF0 hbad hu0 hLF hul
  rcases hv with rfl|rfl
  all_goals
   go_enter Tryz.func31,Tryz.ntmps31
   go_upto_region 12 with (first
    |(go_at_call 57;refine (HR8.out _ (by exact eX)).mono ?_;rintro e w1 ⟨rfl,hb1⟩;have hR1:=H.out.ext (show Ext w w1 by exact eX);have bd3:=hR1.bad;have gl3:=hR1.lt;have HR1:=Hm hR1;have HE1:=Hm hb1;have g0:=((Blk.new w #[.int .u32 oid, .int .u32 ver, .string nm, .int .u8 id, .slice a2 cols.length cap2] 77).ext hb1).cell;have z0:=((Blk.new w #[.int .u32 oid, .int .u32 ver, .string nm, .int .u8 id, .slice a2 cols.length cap2] 77).ext hb1).lt;clear hR1 hb1)
    |(go_at_call 58;refine (HZ.out _).mono ?_;rintro e w2 ⟨rfl,rfl⟩)
    |(go_at_call 55;refine (HBY.out _ HR1.out).mono ?_;rintro e w3 ⟨rfl,hr3,ht3⟩;have bd4:=hr3.bad;have gl4:=hr3.lt;have HR3:=Hm hr3;have HTT:=Hm ((Tch.of_ext (((Ext.refl w).alloc _).trans HE1.out)).trans ht3);clear hr3 ht3))
   have hEb:=ext_bytesWorld w3 5 B
   have HEB:=Hm hEb
   clear hEb
   go_wp2_with (first
    |(go_at_call 59;refine (HUN.out _ _ _ (HSB.out w3 _)).mono ?_;rintro e w4 ⟨a4,c4,rfl, -, -,hb4⟩;have HE4:=Hm hb4;clear hb4)
    |(go_at_call 30;refine (HG.out _ (HR3.out.ext (HEB.out.trans HE4.out))).mono ?_;rintro e w5 ⟨rfl,hr5,ht5⟩;have HR5:=Hm hr5;have HT5:=Hm ((HTT.out.trans (Tch.of_ext (HEB.out.trans HE4.out))).trans ht5);clear hr5 ht5))
   go_ret2
   exact RTkPost.bad HT4.out HR5.out HT5.out
 subst hF0
 have hLn:=hu0 rfl
 rw [show failS Q.2 0=Q.2 by unfold failS;rw [if_neg (by decide)]] at HT3
 obtain ⟨i0,hi,hz0,hz1,hz2⟩:=info_parts Tryz.infoCellR
 obtain ⟨j0,hj,hy0,hy1,hy2⟩:=info_parts Tryz.infoHoleR
 have HLN:=Hm hLn
 have hml:L.length≤cols.length:=by omega
 clear hu0 hLF hul hLn
 rcases hv with rfl|rfl
 ·go_enter Tryz.func31,Tryz.ntmps31
  go_upto_region 12 with (first
   |(go_at_call 57;refine (HR8.out _ (by exact eX)).mono ?_;rintro e w1 ⟨rfl,hb1⟩;have hR1:=H.out.ext (show Ext w w1 by exact eX);have bd3:=hR1.bad;have gl3:=hR1.lt;have HR1:=Hm hR1;have HE1:=Hm hb1;have g0:=((Blk.new w #[.int .u32 oid, .int .u32 ver, .string nm, .int .u8 id, .slice a2 cols.length cap2] 77).ext hb1).cell;have z0:=((Blk.new w #[.int .u32 oid, .int .u32 ver, .string nm, .int .u8 id, .slice a2 cols.length cap2] 77).ext hb1).lt;clear hR1 hb1)
   |(go_at_call 58;refine (HZ.out _).mono ?_;rintro e w2 ⟨rfl,rfl⟩)
   |(go_at_call 55;refine (HBY.out _ HR1.out).mono ?_;rintro e w3 ⟨rfl,hr3,ht3⟩;have bd4:=hr3.bad;have gl4:=hr3.lt;have HR3:=Hm hr3;have HT3' :=Hm ((Tch.of_ext HE1.out).trans ht3);clear hr3 ht3))
  have hEb:=ext_bytesWorld w3 5 B
  have HEB:=Hm hEb
  clear hEb g0 z0 bd3 gl3 bd4 gl4
  go_wp2_with (first
   |(go_at_call 59;refine (HUN.out _ _ _ (HSB.out w3 _)).mono ?_;rintro e w5 ⟨a5,c5,rfl,hs5,ha5,hb5⟩;have H5:=Hm hs5;have HA5:=Hm (fun k o e=>Nat.lt_of_lt_of_le HR3.out.lt (Nat.le_trans HEB.out.size (ha5 k o e)));have HR5:=Hm (HR3.out.ext (HEB.out.trans hb5));have HT5:=Hm (HT3'.out.trans (Tch.of_ext (HEB.out.trans hb5)));clear hs5 hb5 ha5))
  clear hcv
  rw [HLN.out]
  obtain ⟨T,hT⟩:∃T:Nat→(List K×List Ho)×RS,T=tkUp L cols 1 Q.2:=⟨_,rfl⟩
  have HTD:=Hm hT
  have hT0:T 0=(([], []),Q.2):=by rw [hT];rfl
  have HTlen:Hid (∀k,k≤L.length→(T k).1.1.length=k):=Hm (fun k hk=>by rw [hT];exact tkUp_len k hk (by omega))
  have HThol:Hid (∀k,(T k).1.2.length≤k):=Hm (fun k=>by rw [hT];exact tkUp_holes k)
  have HTnull:Hid (∀k (h1:k<L.length),L[k]=true→T (k+1)=(((T k).1.1++ [K.zero],(T k).1.2),(T k).2)):=Hm (fun k h1 h=>by rw [hT];exact tkUp_null h1 (by omega) h)
  have HTcell:Hid (∀k (h1:k<L.length) (h2:k<cols.length),L[k]=false→∀c m U,takeC cols[k].ty 1 (T k).2=((c,m),U)→T (k+1)=(((T k).1.1++ [c],if 0<m then (T k).1.2++ [⟨k,(m:Nat)⟩] else (T k).1.2),U)):=Hm (fun k h1 h2 h c m U he=>by rw [hT] at he⊢;exact tkUp_cell h1 h2 h he)
  have HTfin:=Hm (HT3.out.trans (show _=finT (T L.length) by rw [hT]))
  have HT0:=Hm hT0
  clear hT hT0 HTD
  have hz5:=HT5.out.size
  simp at hz5
  go_loopw [13,14,15] (fun v u i wr=>∃k:Nat,k≤L.length∧i= .int .i64 k∧Hid (wr.ownsRow w5.heap.size 127 6 v k (((T k).1.1.map K.rc).flatten))∧Hid (wr.ownsRow w5.heap.size 104 2 u (T k).1.2.length (((T k).1.2.map Ho.cells).flatten))∧Hid (RF wr g d (T k).2)∧Hid (Tch g w5 wr)∧Hid (Tch g (w.alloc (.cells #[.int .u32 oid, .int .u32 ver, .string nm, .int .u8 id, .slice a2 cols.length cap2] 77)) wr)) (fun _ _ i _=>L.length - (intOf i).toNat)
  case atStart=>exact ⟨0,Nat.zero_le _,rfl,Hm (by rw [HT0.out];exact World.ownsRow_nil _ _ _ _),Hm (by rw [HT0.out];exact World.ownsRow_nil _ _ _ _),Hm (by rw [HT0.out];exact HR5.out),Hm (Tch.refl g _),HT5⟩
  case round=>
   obtain ⟨k,hk,rfl,hown,hown2,hr,hT5,hTW⟩:=hrel
   have hB0:=(Blk.new w #[.int .u32 oid, .int .u32 ver, .string nm, .int .u8 id, .slice a2 cols.length cap2] 77).tch hTW.out (by omega)
   have g0:=hB0.cell
   have z1:=hB0.lt
   have HB0:=Hm hB0
   clear hB0
   by_cases hlt:k<L.length
   ·have hlt2:k<cols.length:=by omega
    obtain ⟨bL,oL,rfl,hbL,hxL⟩:=H5.out.at_ (i:=k) (by simpa using hlt)
    have fL:wr.cell? ⟨bL,oL+k,none⟩=some (.bool L[k]):=by
     rw [hT5.out.cell hbL (by have:=HA5.out bL oL rfl;omega)]
     exact boolC_at hlt hxL hbL (Ext.refl _)
    have hbLw:bL<wr.heap.size:=Nat.lt_of_lt_of_le hbL hT5.out.size
    have hkl:=HTlen.out k (by omega)
    have hhl:=HThol.out k
    clear hxL
    cases hq:L[k] with
    |true=>
     rw [hq] at fL
     have HS:=Hm (HTnull.out k hlt hq)
     obtain ⟨P,hP⟩:∃P,P=T k:=⟨_,rfl⟩
     rw [←hP] at HS hown hown2 hr hkl hhl
     clear hq hP
     have HOW:=Hm (hown.out.alloc (.cells #[.int .u8 0, .int .u8 0, .int .i64 0, .int .u64 0, .int .u64 0, .string ByteArray.empty] 127))
     go_wp2_with (at_builtin;refine wpList_append_own _ rfl _ _ 47 rfl w5.heap.size 127 i0 _ 6 56 Tryz.underlying47 hi hz0 hz1 hz2 rfl (by decide) _ _ _ rfl (HOW.out.alloc _) ⟨_,0,none⟩ 1 1 K.zero.rc rfl rfl ?c1 ?c2 ?c3 ?c4 ?c5 ?_)
     case c1=>exact cells_new' _ #[.int .u8 0, .int .u8 0, .int .i64 0, .int .u64 0, .int .u64 0, .string ByteArray.empty] _ (by simp)
     case c2=>intro u hu;simp [K.rc,K.zero,V.zero] at hu;rcases hu with rfl|rfl|rfl|rfl|rfl|rfl<;>rfl
     case c3=>unfold maxLen;omega
     case c4=>omega
     case c5=>have:=hT5.out.size;simp;omega
     intro v' w6 hown' hgrow _
     have hlt2' :=owns_lt2 hown.out
     have HN1:=Hm hown'
     have HN2:=Hm (owns_grown2 ((hown2.out.alloc (.cells #[.int .u8 0, .int .u8 0, .int .i64 0, .int .u64 0, .int .u64 0, .string ByteArray.empty] 127)).alloc (.cells #[.int .u8 0, .int .u8 0, .int .i64 0, .int .u64 0, .int .u64 0, .string ByteArray.empty] 127)) hgrow (fun q hq e=>owns_apart hown2.out hown.out (by decide) q hq e))
     have HNR:=Hm (((hr.out.ext ((Ext.refl wr).alloc (.cells #[.int .u8 0, .int .u8 0, .int .i64 0, .int .u64 0, .int .u64 0, .string ByteArray.empty] 127))).ext ((Ext.refl _).alloc (.cells #[.int .u8 0, .int .u8 0, .int .i64 0, .int .u64 0, .int .u64 0, .string ByteArray.empty] 127))).grown hgrow (fun j hj=>by have:=hlt2' j hj;omega))
     have HNT:=Hm (((hT5.out.alloc (.cells #[.int .u8 0, .int .u8 0, .int .i64 0, .int .u64 0, .int .u64 0, .string ByteArray.empty] 127)).alloc (.cells #[.int .u8 0, .int .u8 0, .int .i64 0, .int .u64 0, .int .u64 0, .string ByteArray.empty] 127)).grown hgrow (fun j hj=>(hlt2' j hj).1))
     have HNW:=Hm (((hTW.out.alloc (.cells #[.int .u8 0, .int .u8 0, .int .i64 0, .int .u64 0, .int .u64 0, .string ByteArray.empty] 127)).alloc (.cells #[.int .u8 0, .int .u8 0, .int .i64 0, .int .u64 0, .int .u64 0, .string ByteArray.empty] 127)).grown hgrow (fun j hj=>by have:=hlt2' j hj;have:=hT5.out.size;simp;omega))
     clear hown' hgrow
     go_wp2
     go_roundw
     case rel=>exact ⟨k+1,by omega,by go_num,Hm (by rw [HS.out,List.map_append,List.flatten_append];simpa using HN1.out),Hm (by rw [HS.out];exact HN2.out),Hm (by rw [HS.out];exact HNR.out),HNT,HNW⟩
     case measure=>simp [intOf];omega
    |false=>
     rw [hq] at fL
     obtain ⟨b2,o2,ha2e,hb2,hx2⟩:=HL2.out.at_ (i:=k) (by simpa using hlt2)
     have hTw:Tch g w wr:=(Tch.of_ext ((Ext.refl w).alloc _)).trans hTW.out
     have p1:wr.cell? ⟨b2,o2+k*3+1,none⟩=some (.int .u8 cols[k].ty):=by
      rw [hTw.cell hb2 (ha2 b2 o2 ha2e (List.ne_nil_of_length_pos (by omega)))]
      exact (Col.at_ hlt2 hx2 hb2 (Ext.refl _)).2.1
     have hb2w:b2<wr.heap.size:=Nat.lt_of_lt_of_le hb2 hTw.size
     have HTC:=Hm (HTcell.out k hlt hlt2 hq)
     have HCT:=Hm (fun W h=>rctake_any g d (T k).2 cols[k].ty 1 W h)
     obtain ⟨c,m,U,hTC⟩:∃c m U,takeC cols[k].ty 1 (T k).2=((c,m),U):=⟨_,_,_,rfl⟩
     rw [hTC] at HCT
     have HS:=Hm (HTC.out c m U hTC)
     simp only [K.aggR] at HCT
     obtain ⟨P,hP⟩:∃P,P=T k:=⟨_,rfl⟩
     rw [←hP] at HS HCT hown hown2 hr hkl hhl
     obtain ⟨ty,hte⟩:∃ty,ty=cols[k].ty:=⟨_,rfl⟩
     rw [←hte] at p1 HCT
     have HA2:=Hm ha2
     subst ha2e
     clear hq hP hTC hte hx2 HTC
     go_upto_region 25 with (go_at_call 60;refine (HCT.out _ (hr.out.ext ((Ext.refl wr).alloc _))).mono ?_;rintro e w6 ⟨rfl,hr6,ht6⟩;have hX:=(Blk.new wr #[.int .u8 0, .int .u8 0, .int .i64 0, .int .u64 0, .int .u64 0, .string ByteArray.empty] 127).tch ht6 (by omega);have kX:=hX.cell;have fX:=hX.frozen;have zX:=hX.lt;have HR6:=Hm hr6;have HT6:=Hm ht6;have HX6:=Hm hX;have HO6:=Hm (owns_tch (hown.out.alloc (.cells #[.int .u8 0, .int .u8 0, .int .i64 0, .int .u64 0, .int .u64 0, .string ByteArray.empty] 127)) ht6 (by omega));have HP6:=Hm (owns_tch (hown2.out.alloc (.cells #[.int .u8 0, .int .u8 0, .int .i64 0, .int .u64 0, .int .u64 0, .string ByteArray.empty] 127)) ht6 (by omega));clear hr6 ht6 hX)
     have hl1:=owns_lt2 hown.out
     have hl2:=owns_lt2 hown2.out
     have h5r:=hT5.out.size
     have hB7:Blk ((((((w6.setCell ⟨wr.heap.size,0,none⟩ (.int .u8 c.k)).setCell ⟨wr.heap.size,1,none⟩ (.int .u8 c.v.ty)).setCell ⟨wr.heap.size,2,none⟩ (.int .i64 c.v.n)).setCell ⟨wr.heap.size,3,none⟩ (.int .u64 c.v.x)).setCell ⟨wr.heap.size,4,none⟩ (.int .u64 c.v.y)).setCell ⟨wr.heap.size,5,none⟩ (.string c.v.s)) wr.heap.size #[.int .u8 c.k, .int .u8 c.v.ty, .int .i64 c.v.n, .int .u64 c.v.x, .int .u64 c.v.y, .string c.v.s] 127:=Blk.six HX6.out
     have hO7:((((((w6.setCell ⟨wr.heap.size,0,none⟩ (.int .u8 c.k)).setCell ⟨wr.heap.size,1,none⟩ (.int .u8 c.v.ty)).setCell ⟨wr.heap.size,2,none⟩ (.int .i64 c.v.n)).setCell ⟨wr.heap.size,3,none⟩ (.int .u64 c.v.x)).setCell ⟨wr.heap.size,4,none⟩ (.int .u64 c.v.y)).setCell ⟨wr.heap.size,5,none⟩ (.string c.v.s)).ownsRow w5.heap.size 127 6 u13 k ((P.1.1.map K.rc).flatten):=owns_six HO6.out (fun q hq=>by have:=hl1 q hq;omega)
     have hP7:((((((w6.setCell ⟨wr.heap.size,0,none⟩ (.int .u8 c.k)).setCell ⟨wr.heap.size,1,none⟩ (.int .u8 c.v.ty)).setCell ⟨wr.heap.size,2,none⟩ (.int .i64 c.v.n)).setCell ⟨wr.heap.size,3,none⟩ (.int .u64 c.v.x)).setCell ⟨wr.heap.size,4,none⟩ (.int .u64 c.v.y)).setCell ⟨wr.heap.size,5,none⟩ (.string c.v.s)).ownsRow w5.heap.size 104 2 u14 P.1.2.length ((P.1.2.map Ho.cells).flatten):=owns_six HP6.out (fun q hq=>by have:=hl2 q hq;omega)
     have hR7:RF ((((((w6.setCell ⟨wr.heap.size,0,none⟩ (.int .u8 c.k)).setCell ⟨wr.heap.size,1,none⟩ (.int .u8 c.v.ty)).setCell ⟨wr.heap.size,2,none⟩ (.int .i64 c.v.n)).setCell ⟨wr.heap.size,3,none⟩ (.int .u64 c.v.x)).setCell ⟨wr.heap.size,4,none⟩ (.int .u64 c.v.y)).setCell ⟨wr.heap.size,5,none⟩ (.string c.v.s)) g d U:=RF.six HR6.out (by omega)
     have hT7:Tch g w5 ((((((w6.setCell ⟨wr.heap.size,0,none⟩ (.int .u8 c.k)).setCell ⟨wr.heap.size,1,none⟩ (.int .u8 c.v.ty)).setCell ⟨wr.heap.size,2,none⟩ (.int .i64 c.v.n)).setCell ⟨wr.heap.size,3,none⟩ (.int .u64 c.v.x)).setCell ⟨wr.heap.size,4,none⟩ (.int .u64 c.v.y)).setCell ⟨wr.heap.size,5,none⟩ (.string c.v.s)):=Tch.six ((hT5.out.alloc _).trans HT6.out) h5r
     have hV7:Tch g _ ((((((w6.setCell ⟨wr.heap.size,0,none⟩ (.int .u8 c.k)).setCell ⟨wr.heap.size,1,none⟩ (.int .u8 c.v.ty)).setCell ⟨wr.heap.size,2,none⟩ (.int .i64 c.v.n)).setCell ⟨wr.heap.size,3,none⟩ (.int .u64 c.v.x)).setCell ⟨wr.heap.size,4,none⟩ (.int .u64 c.v.y)).setCell ⟨wr.heap.size,5,none⟩ (.string c.v.s)):=Tch.six ((hTW.out.alloc _).trans HT6.out) (by simp;omega)
     obtain ⟨W7,hW7⟩:∃W7,W7=(((((w6.setCell ⟨wr.heap.size,0,none⟩ (.int .u8 c.k)).setCell ⟨wr.heap.size,1,none⟩ (.int .u8 c.v.ty)).setCell ⟨wr.heap.size,2,none⟩ (.int .i64 c.v.n)).setCell ⟨wr.heap.size,3,none⟩ (.int .u64 c.v.x)).setCell ⟨wr.heap.size,4,none⟩ (.int .u64 c.v.y)).setCell ⟨wr.heap.size,5,none⟩ (.string c.v.s):=⟨_,rfl⟩
     rw [←hW7] at hB7 hO7 hP7 hR7 hT7 hV7⊢
     clear hW7 kX fX zX HX6 HO6 HP6 HR6 HT6 g0
     have k7:=hB7.cell
     have z7:=hB7.lt
     have HO7:=Hm hO7
     have HP7:=Hm hP7
     have HR7:=Hm hR7
     have HT7:=Hm hT7
     have HV7:=Hm hV7
     clear hB7 hO7 hP7 hR7 hT7 hV7
     go_upto_region 26 with (at_builtin;refine wpList_append_own _ rfl _ _ 47 rfl w5.heap.size 127 i0 _ 6 56 Tryz.underlying47 hi hz0 hz1 hz2 rfl (by decide) _ _ _ rfl (HO7.out.alloc _) ⟨_,0,none⟩ 1 1 c.rc rfl rfl ?c1 ?c2 ?c3 ?c4 ?c5 ?_)
     case c1=>exact cells_new _ #[.int .u8 c.k, .int .u8 c.v.ty, .int .i64 c.v.n, .int .u64 c.v.x, .int .u64 c.v.y, .string c.v.s] _
     case c2=>intro u hu;simp [K.rc] at hu;rcases hu with rfl|rfl|rfl|rfl|rfl|rfl<;>rfl
     case c3=>unfold maxLen;omega
     case c4=>omega
     case c5=>have:=HT7.out.size;simp;omega
     intro v' w8 hown' hgrow _
     have hl7:=owns_lt2 HO7.out
     have HN1:=Hm hown'
     have HN2:=Hm (owns_grown2 (HP7.out.alloc (.cells #[.int .u8 c.k, .int .u8 c.v.ty, .int .i64 c.v.n, .int .u64 c.v.x, .int .u64 c.v.y, .string c.v.s] 127)) hgrow (fun q hq e=>owns_apart HP7.out HO7.out (by decide) q hq e))
     have HNR:=Hm ((HR7.out.ext ((Ext.refl _).alloc (.cells #[.int .u8 c.k, .int .u8 c.v.ty, .int .i64 c.v.n, .int .u64 c.v.x, .int .u64 c.v.y, .string c.v.s] 127))).grown hgrow (fun j hj=>by have:=hl7 j hj;omega))
     have HNT:=Hm ((HT7.out.alloc (.cells #[.int .u8 c.k, .int .u8 c.v.ty, .int .i64 c.v.n, .int .u64 c.v.x, .int .u64 c.v.y, .string c.v.s] 127)).grown hgrow (fun j hj=>(hl7 j hj).1))
     have HNW:=Hm ((HV7.out.alloc (.cells #[.int .u8 c.k, .int .u8 c.v.ty, .int .i64 c.v.n, .int .u64 c.v.x, .int .u64 c.v.y, .string c.v.s] 127)).grown hgrow (fun j hj=>by have:=hl7 j hj;simp;omega))
     clear hown' hgrow hl7 hl1 hl2 k7 z7 HO7 HP7 HR7 HT7 HV7
     by_cases hm:0<m
     ·rw [if_pos hm] at HS
      go_upto_region 20 with (at_builtin;refine wpList_append_own _ rfl _ _ 51 rfl w5.heap.size 104 j0 _ 2 16 Tryz.underlying51 hj hy0 hy1 hy2 rfl (by decide) _ _ _ rfl (HN2.out.alloc _) ⟨_,0,none⟩ 1 1 (Ho.cells ⟨k,m⟩) rfl rfl ?d1 ?d2 ?d3 ?d4 ?d5 ?_)
      case d1=>exact cells_new _ #[.int .i64 (k:Int), .int .i64 (m:Int)] _
      case d2=>intro u hu;simp [Ho.cells] at hu;rcases hu with rfl|rfl<;>rfl
      case d3=>unfold maxLen;omega
      case d4=>omega
      case d5=>have:=HNT.out.size;simp;omega
      intro u' w9 hown' hgrow _
      have hl7:=owns_lt2 HN2.out
      have HM2:=Hm hown'
      have HM1:=Hm (owns_grown2 (HN1.out.alloc (.cells #[.int .i64 (k:Int), .int .i64 (m:Int)] 104)) hgrow (fun q hq e=>owns_apart HN1.out HN2.out (by decide) q hq e))
      have HMR:=Hm ((HNR.out.ext ((Ext.refl _).alloc (.cells #[.int .i64 (k:Int), .int .i64 (m:Int)] 104))).grown hgrow (fun j hj=>by have:=hl7 j hj;omega))
      have HMT:=Hm ((HNT.out.alloc (.cells #[.int .i64 (k:Int), .int .i64 (m:Int)] 104)).grown hgrow (fun j hj=>(hl7 j hj).1))
      have HMW:=Hm ((HNW.out.alloc (.cells #[.int .i64 (k:Int), .int .i64 (m:Int)] 104)).grown hgrow (fun j hj=>by have:=hl7 j hj;simp;omega))
      clear hown' hgrow hl7 HN1 HN2 HNR HNT HNW
      go_wp2
      go_roundw
      case rel=>exact ⟨k+1,by omega,by go_num,Hm (by rw [HS.out,List.map_append,List.flatten_append];simpa using HM1.out),Hm (by rw [HS.out,List.map_append,List.flatten_append,List.length_append];simpa using HM2.out),Hm (by rw [HS.out];exact HMR.out),HMT,HMW⟩
      case measure=>simp [intOf];omega
     ·rw [if_neg hm] at HS
      have hm0:m=0:=by omega
      subst hm0
      go_wp2
      go_roundw
      case rel=>exact ⟨k+1,by omega,by go_num,Hm (by rw [HS.out,List.map_append,List.flatten_append];simpa using HN1.out),Hm (by rw [HS.out];exact HN2.out),Hm (by rw [HS.out];exact HNR.out),HNT,HNW⟩
      case measure=>simp [intOf];omega
   ·have hkk:k=L.length:=by omega
    subst hkk
    have hkl:=HTlen.out _ (Nat.le_refl _)
    have HF:=HTfin
    obtain ⟨P,hP⟩:∃P,P=T L.length:=⟨_,rfl⟩
    rw [←hP] at HF hown hown2 hr hkl
    have hTw:Hid (Tch g w wr):=Hm ((Tch.of_ext ((Ext.refl w).alloc _)).trans hTW.out)
    have hz6:=hT5.out.size
    obtain ⟨a8,c8,rfl⟩:=owns_shape hown.out
    obtain ⟨a9,c9,rfl⟩:=owns_shape hown2.out
    have bdP:=hr.out.bad
    have hLc:cols.length≤L.length:=by have:=HLN.out;omega
    have glP:=hr.out.lt
    clear hP HTlen HThol HTnull HTcell HTfin
    by_cases hpe:P.2.e=0
    ·have hpe2:(P.2.e !=0)=false:=by simpa using hpe
     have HFF:=Hm (HF.out.trans (show finT P=P by unfold finT;rw [if_neg (by simpa using hpe)]))
     clear hpe
     go_wp2
     go_ret2
     rw [HFF.out]
     unfold RTkPostN
     rw [hkl]
     refine ⟨a8,c8,a9,c9,rfl, ?_, ?_,fun q o e=>by have:=owns_at hown.out q o e;omega,fun q o e=>by have:=owns_at hown2.out q o e;omega,hr.out,hTw.out,owns_nil0 hown.out,owns_nil0 hown2.out⟩
     ·have:=Sl.of_owns (base:=w5.heap.size) (e:=127) (xss:=P.1.1.map K.rc) (by rw [List.length_map,hkl];exact hown.out) rc_len
      exact this
     ·have:=Sl.of_owns (base:=w5.heap.size) (e:=104) (xss:=P.1.2.map Ho.cells) (by rw [List.length_map];exact hown2.out) ho_len
      exact this
    ·have hpe2:(P.2.e !=0)=true:=by simpa using hpe
     have HFF:=Hm (HF.out.trans (show finT P=(([], []),P.2) by unfold finT;rw [if_pos hpe]))
     clear hpe
     go_wp2
     go_ret2
     exact RTkPost.bad HFF.out hr.out hTw.out
 ·go_enter Tryz.func31,Tryz.ntmps31
  go_upto_region 12 with (first
   |(go_at_call 57;refine (HR8.out _ (by exact eX)).mono ?_;rintro e w1 ⟨rfl,hb1⟩;have hR1:=H.out.ext (show Ext w w1 by exact eX);have bd3:=hR1.bad;have gl3:=hR1.lt;have HR1:=Hm hR1;have HE1:=Hm hb1;have g0:=((Blk.new w #[.int .u32 oid, .int .u32 ver, .string nm, .int .u8 id, .slice a2 cols.length cap2] 77).ext hb1).cell;have z0:=((Blk.new w #[.int .u32 oid, .int .u32 ver, .string nm, .int .u8 id, .slice a2 cols.length cap2] 77).ext hb1).lt;clear hR1 hb1)
   |(go_at_call 58;refine (HZ.out _).mono ?_;rintro e w2 ⟨rfl,rfl⟩)
   |(go_at_call 55;refine (HBY.out _ HR1.out).mono ?_;rintro e w3 ⟨rfl,hr3,ht3⟩;have bd4:=hr3.bad;have gl4:=hr3.lt;have HR3:=Hm hr3;have HT3' :=Hm ((Tch.of_ext HE1.out).trans ht3);clear hr3 ht3))
  have hEb:=ext_bytesWorld w3 5 B
  have HEB:=Hm hEb
  clear hEb g0 z0 bd3 gl3 bd4 gl4
  go_wp2_with (first
   |(go_at_call 59;refine (HUN.out _ _ _ (HSB.out w3 _)).mono ?_;rintro e w5 ⟨a5,c5,rfl,hs5,ha5,hb5⟩;have H5:=Hm hs5;have HA5:=Hm (fun k o e=>Nat.lt_of_lt_of_le HR3.out.lt (Nat.le_trans HEB.out.size (ha5 k o e)));have HR5:=Hm (HR3.out.ext (HEB.out.trans hb5));have HT5:=Hm (HT3'.out.trans (Tch.of_ext (HEB.out.trans hb5)));clear hs5 hb5 ha5))
  clear hcv
  rw [HLN.out]
  obtain ⟨T,hT⟩:∃T:Nat→(List K×List Ho)×RS,T=tkUp L cols 2 Q.2:=⟨_,rfl⟩
  have HTD:=Hm hT
  have hT0:T 0=(([], []),Q.2):=by rw [hT];rfl
  have HTlen:Hid (∀k,k≤L.length→(T k).1.1.length=k):=Hm (fun k hk=>by rw [hT];exact tkUp_len k hk (by omega))
  have HThol:Hid (∀k,(T k).1.2.length≤k):=Hm (fun k=>by rw [hT];exact tkUp_holes k)
  have HTnull:Hid (∀k (h1:k<L.length),L[k]=true→T (k+1)=(((T k).1.1++ [K.zero],(T k).1.2),(T k).2)):=Hm (fun k h1 h=>by rw [hT];exact tkUp_null h1 (by omega) h)
  have HTcell:Hid (∀k (h1:k<L.length) (h2:k<cols.length),L[k]=false→∀c m U,takeC cols[k].ty 2 (T k).2=((c,m),U)→T (k+1)=(((T k).1.1++ [c],if 0<m then (T k).1.2++ [⟨k,(m:Nat)⟩] else (T k).1.2),U)):=Hm (fun k h1 h2 h c m U he=>by rw [hT] at he⊢;exact tkUp_cell h1 h2 h he)
  have HTfin:=Hm (HT3.out.trans (show _=finT (T L.length) by rw [hT]))
  have HT0:=Hm hT0
  clear hT hT0 HTD
  have hz5:=HT5.out.size
  simp at hz5
  go_loopw [13,14,15] (fun v u i wr=>∃k:Nat,k≤L.length∧i= .int .i64 k∧Hid (wr.ownsRow w5.heap.size 127 6 v k (((T k).1.1.map K.rc).flatten))∧Hid (wr.ownsRow w5.heap.size 104 2 u (T k).1.2.length (((T k).1.2.map Ho.cells).flatten))∧Hid (RF wr g d (T k).2)∧Hid (Tch g w5 wr)∧Hid (Tch g (w.alloc (.cells #[.int .u32 oid, .int .u32 ver, .string nm, .int .u8 id, .slice a2 cols.length cap2] 77)) wr)) (fun _ _ i _=>L.length - (intOf i).toNat)
  case atStart=>exact ⟨0,Nat.zero_le _,rfl,Hm (by rw [HT0.out];exact World.ownsRow_nil _ _ _ _),Hm (by rw [HT0.out];exact World.ownsRow_nil _ _ _ _),Hm (by rw [HT0.out];exact HR5.out),Hm (Tch.refl g _),HT5⟩
  case round=>
   obtain ⟨k,hk,rfl,hown,hown2,hr,hT5,hTW⟩:=hrel
   have hB0:=(Blk.new w #[.int .u32 oid, .int .u32 ver, .string nm, .int .u8 id, .slice a2 cols.length cap2] 77).tch hTW.out (by omega)
   have g0:=hB0.cell
   have z1:=hB0.lt
   have HB0:=Hm hB0
   clear hB0
   by_cases hlt:k<L.length
   ·have hlt2:k<cols.length:=by omega
    obtain ⟨bL,oL,rfl,hbL,hxL⟩:=H5.out.at_ (i:=k) (by simpa using hlt)
    have fL:wr.cell? ⟨bL,oL+k,none⟩=some (.bool L[k]):=by
     rw [hT5.out.cell hbL (by have:=HA5.out bL oL rfl;omega)]
     exact boolC_at hlt hxL hbL (Ext.refl _)
    have hbLw:bL<wr.heap.size:=Nat.lt_of_lt_of_le hbL hT5.out.size
    have hkl:=HTlen.out k (by omega)
    have hhl:=HThol.out k
    clear hxL
    cases hq:L[k] with
    |true=>
     rw [hq] at fL
     have HS:=Hm (HTnull.out k hlt hq)
     obtain ⟨P,hP⟩:∃P,P=T k:=⟨_,rfl⟩
     rw [←hP] at HS hown hown2 hr hkl hhl
     clear hq hP
     have HOW:=Hm (hown.out.alloc (.cells #[.int .u8 0, .int .u8 0, .int .i64 0, .int .u64 0, .int .u64 0, .string ByteArray.empty] 127))
     go_wp2_with (at_builtin;refine wpList_append_own _ rfl _ _ 47 rfl w5.heap.size 127 i0 _ 6 56 Tryz.underlying47 hi hz0 hz1 hz2 rfl (by decide) _ _ _ rfl (HOW.out.alloc _) ⟨_,0,none⟩ 1 1 K.zero.rc rfl rfl ?c1 ?c2 ?c3 ?c4 ?c5 ?_)
     case c1=>exact cells_new' _ #[.int .u8 0, .int .u8 0, .int .i64 0, .int .u64 0, .int .u64 0, .string ByteArray.empty] _ (by simp)
     case c2=>intro u hu;simp [K.rc,K.zero,V.zero] at hu;rcases hu with rfl|rfl|rfl|rfl|rfl|rfl<;>rfl
     case c3=>unfold maxLen;omega
     case c4=>omega
     case c5=>have:=hT5.out.size;simp;omega
     intro v' w6 hown' hgrow _
     have hlt2' :=owns_lt2 hown.out
     have HN1:=Hm hown'
     have HN2:=Hm (owns_grown2 ((hown2.out.alloc (.cells #[.int .u8 0, .int .u8 0, .int .i64 0, .int .u64 0, .int .u64 0, .string ByteArray.empty] 127)).alloc (.cells #[.int .u8 0, .int .u8 0, .int .i64 0, .int .u64 0, .int .u64 0, .string ByteArray.empty] 127)) hgrow (fun q hq e=>owns_apart hown2.out hown.out (by decide) q hq e))
     have HNR:=Hm (((hr.out.ext ((Ext.refl wr).alloc (.cells #[.int .u8 0, .int .u8 0, .int .i64 0, .int .u64 0, .int .u64 0, .string ByteArray.empty] 127))).ext ((Ext.refl _).alloc (.cells #[.int .u8 0, .int .u8 0, .int .i64 0, .int .u64 0, .int .u64 0, .string ByteArray.empty] 127))).grown hgrow (fun j hj=>by have:=hlt2' j hj;omega))
     have HNT:=Hm (((hT5.out.alloc (.cells #[.int .u8 0, .int .u8 0, .int .i64 0, .int .u64 0, .int .u64 0, .string ByteArray.empty] 127)).alloc (.cells #[.int .u8 0, .int .u8 0, .int .i64 0, .int .u64 0, .int .u64 0, .string ByteArray.empty] 127)).grown hgrow (fun j hj=>(hlt2' j hj).1))
     have HNW:=Hm (((hTW.out.alloc (.cells #[.int .u8 0, .int .u8 0, .int .i64 0, .int .u64 0, .int .u64 0, .string ByteArray.empty] 127)).alloc (.cells #[.int .u8 0, .int .u8 0, .int .i64 0, .int .u64 0, .int .u64 0, .string ByteArray.empty] 127)).grown hgrow (fun j hj=>by have:=hlt2' j hj;have:=hT5.out.size;simp;omega))
     clear hown' hgrow
     go_wp2
     go_roundw
     case rel=>exact ⟨k+1,by omega,by go_num,Hm (by rw [HS.out,List.map_append,List.flatten_append];simpa using HN1.out),Hm (by rw [HS.out];exact HN2.out),Hm (by rw [HS.out];exact HNR.out),HNT,HNW⟩
     case measure=>simp [intOf];omega
    |false=>
     rw [hq] at fL
     obtain ⟨b2,o2,ha2e,hb2,hx2⟩:=HL2.out.at_ (i:=k) (by simpa using hlt2)
     have hTw:Tch g w wr:=(Tch.of_ext ((Ext.refl w).alloc _)).trans hTW.out
     have p1:wr.cell? ⟨b2,o2+k*3+1,none⟩=some (.int .u8 cols[k].ty):=by
      rw [hTw.cell hb2 (ha2 b2 o2 ha2e (List.ne_nil_of_length_pos (by omega)))]
      exact (Col.at_ hlt2 hx2 hb2 (Ext.refl _)).2.1
     have hb2w:b2<wr.heap.size:=Nat.lt_of_lt_of_le hb2 hTw.size
     have HTC:=Hm (HTcell.out k hlt hlt2 hq)
     have HCT:=Hm (fun W h=>rctake_any g d (T k).2 cols[k].ty 2 W h)
     obtain ⟨c,m,U,hTC⟩:∃c m U,takeC cols[k].ty 2 (T k).2=((c,m),U):=⟨_,_,_,rfl⟩
     rw [hTC] at HCT
     have HS:=Hm (HTC.out c m U hTC)
     simp only [K.aggR] at HCT
     obtain ⟨P,hP⟩:∃P,P=T k:=⟨_,rfl⟩
     rw [←hP] at HS HCT hown hown2 hr hkl hhl
     obtain ⟨ty,hte⟩:∃ty,ty=cols[k].ty:=⟨_,rfl⟩
     rw [←hte] at p1 HCT
     have HA2:=Hm ha2
     subst ha2e
     clear hq hP hTC hte hx2 HTC
     go_upto_region 25 with (go_at_call 60;refine (HCT.out _ (hr.out.ext ((Ext.refl wr).alloc _))).mono ?_;rintro e w6 ⟨rfl,hr6,ht6⟩;have hX:=(Blk.new wr #[.int .u8 0, .int .u8 0, .int .i64 0, .int .u64 0, .int .u64 0, .string ByteArray.empty] 127).tch ht6 (by omega);have kX:=hX.cell;have fX:=hX.frozen;have zX:=hX.lt;have HR6:=Hm hr6;have HT6:=Hm ht6;have HX6:=Hm hX;have HO6:=Hm (owns_tch (hown.out.alloc (.cells #[.int .u8 0, .int .u8 0, .int .i64 0, .int .u64 0, .int .u64 0, .string ByteArray.empty] 127)) ht6 (by omega));have HP6:=Hm (owns_tch (hown2.out.alloc (.cells #[.int .u8 0, .int .u8 0, .int .i64 0, .int .u64 0, .int .u64 0, .string ByteArray.empty] 127)) ht6 (by omega));clear hr6 ht6 hX)
     have hl1:=owns_lt2 hown.out
     have hl2:=owns_lt2 hown2.out
     have h5r:=hT5.out.size
     have hB7:Blk ((((((w6.setCell ⟨wr.heap.size,0,none⟩ (.int .u8 c.k)).setCell ⟨wr.heap.size,1,none⟩ (.int .u8 c.v.ty)).setCell ⟨wr.heap.size,2,none⟩ (.int .i64 c.v.n)).setCell ⟨wr.heap.size,3,none⟩ (.int .u64 c.v.x)).setCell ⟨wr.heap.size,4,none⟩ (.int .u64 c.v.y)).setCell ⟨wr.heap.size,5,none⟩ (.string c.v.s)) wr.heap.size #[.int .u8 c.k, .int .u8 c.v.ty, .int .i64 c.v.n, .int .u64 c.v.x, .int .u64 c.v.y, .string c.v.s] 127:=Blk.six HX6.out
     have hO7:((((((w6.setCell ⟨wr.heap.size,0,none⟩ (.int .u8 c.k)).setCell ⟨wr.heap.size,1,none⟩ (.int .u8 c.v.ty)).setCell ⟨wr.heap.size,2,none⟩ (.int .i64 c.v.n)).setCell ⟨wr.heap.size,3,none⟩ (.int .u64 c.v.x)).setCell ⟨wr.heap.size,4,none⟩ (.int .u64 c.v.y)).setCell ⟨wr.heap.size,5,none⟩ (.string c.v.s)).ownsRow w5.heap.size 127 6 u13 k ((P.1.1.map K.rc).flatten):=owns_six HO6.out (fun q hq=>by have:=hl1 q hq;omega)
     have hP7:((((((w6.setCell ⟨wr.heap.size,0,none⟩ (.int .u8 c.k)).setCell ⟨wr.heap.size,1,none⟩ (.int .u8 c.v.ty)).setCell ⟨wr.heap.size,2,none⟩ (.int .i64 c.v.n)).setCell ⟨wr.heap.size,3,none⟩ (.int .u64 c.v.x)).setCell ⟨wr.heap.size,4,none⟩ (.int .u64 c.v.y)).setCell ⟨wr.heap.size,5,none⟩ (.string c.v.s)).ownsRow w5.heap.size 104 2 u14 P.1.2.length ((P.1.2.map Ho.cells).flatten):=owns_six HP6.out (fun q hq=>by have:=hl2 q hq;omega)
     have hR7:RF ((((((w6.setCell ⟨wr.heap.size,0,none⟩ (.int .u8 c.k)).setCell ⟨wr.heap.size,1,none⟩ (.int .u8 c.v.ty)).setCell ⟨wr.heap.size,2,none⟩ (.int .i64 c.v.n)).setCell ⟨wr.heap.size,3,none⟩ (.int .u64 c.v.x)).setCell ⟨wr.heap.size,4,none⟩ (.int .u64 c.v.y)).setCell ⟨wr.heap.size,5,none⟩ (.string c.v.s)) g d U:=RF.six HR6.out (by omega)
     have hT7:Tch g w5 ((((((w6.setCell ⟨wr.heap.size,0,none⟩ (.int .u8 c.k)).setCell ⟨wr.heap.size,1,none⟩ (.int .u8 c.v.ty)).setCell ⟨wr.heap.size,2,none⟩ (.int .i64 c.v.n)).setCell ⟨wr.heap.size,3,none⟩ (.int .u64 c.v.x)).setCell ⟨wr.heap.size,4,none⟩ (.int .u64 c.v.y)).setCell ⟨wr.heap.size,5,none⟩ (.string c.v.s)):=Tch.six ((hT5.out.alloc _).trans HT6.out) h5r
     have hV7:Tch g _ ((((((w6.setCell ⟨wr.heap.size,0,none⟩ (.int .u8 c.k)).setCell ⟨wr.heap.size,1,none⟩ (.int .u8 c.v.ty)).setCell ⟨wr.heap.size,2,none⟩ (.int .i64 c.v.n)).setCell ⟨wr.heap.size,3,none⟩ (.int .u64 c.v.x)).setCell ⟨wr.heap.size,4,none⟩ (.int .u64 c.v.y)).setCell ⟨wr.heap.size,5,none⟩ (.string c.v.s)):=Tch.six ((hTW.out.alloc _).trans HT6.out) (by simp;omega)
     obtain ⟨W7,hW7⟩:∃W7,W7=(((((w6.setCell ⟨wr.heap.size,0,none⟩ (.int .u8 c.k)).setCell ⟨wr.heap.size,1,none⟩ (.int .u8 c.v.ty)).setCell ⟨wr.heap.size,2,none⟩ (.int .i64 c.v.n)).setCell ⟨wr.heap.size,3,none⟩ (.int .u64 c.v.x)).setCell ⟨wr.heap.size,4,none⟩ (.int .u64 c.v.y)).setCell ⟨wr.heap.size,5,none⟩ (.string c.v.s):=⟨_,rfl⟩
     rw [←hW7] at hB7 hO7 hP7 hR7 hT7 hV7⊢
     clear hW7 kX fX zX HX6 HO6 HP6 HR6 HT6 g0
     have k7:=hB7.cell
     have z7:=hB7.lt
     have HO7:=Hm hO7
     have HP7:=Hm hP7
     have HR7:=Hm hR7
     have HT7:=Hm hT7
     have HV7:=Hm hV7
     clear hB7 hO7 hP7 hR7 hT7 hV7
     go_upto_region 26 with (at_builtin;refine wpList_append_own _ rfl _ _ 47 rfl w5.heap.size 127 i0 _ 6 56 Tryz.underlying47 hi hz0 hz1 hz2 rfl (by decide) _ _ _ rfl (HO7.out.alloc _) ⟨_,0,none⟩ 1 1 c.rc rfl rfl ?c1 ?c2 ?c3 ?c4 ?c5 ?_)
     case c1=>exact cells_new _ #[.int .u8 c.k, .int .u8 c.v.ty, .int .i64 c.v.n, .int .u64 c.v.x, .int .u64 c.v.y, .string c.v.s] _
     case c2=>intro u hu;simp [K.rc] at hu;rcases hu with rfl|rfl|rfl|rfl|rfl|rfl<;>rfl
     case c3=>unfold maxLen;omega
     case c4=>omega
     case c5=>have:=HT7.out.size;simp;omega
     intro v' w8 hown' hgrow _
     have hl7:=owns_lt2 HO7.out
     have HN1:=Hm hown'
     have HN2:=Hm (owns_grown2 (HP7.out.alloc (.cells #[.int .u8 c.k, .int .u8 c.v.ty, .int .i64 c.v.n, .int .u64 c.v.x, .int .u64 c.v.y, .string c.v.s] 127)) hgrow (fun q hq e=>owns_apart HP7.out HO7.out (by decide) q hq e))
     have HNR:=Hm ((HR7.out.ext ((Ext.refl _).alloc (.cells #[.int .u8 c.k, .int .u8 c.v.ty, .int .i64 c.v.n, .int .u64 c.v.x, .int .u64 c.v.y, .string c.v.s] 127))).grown hgrow (fun j hj=>by have:=hl7 j hj;omega))
     have HNT:=Hm ((HT7.out.alloc (.cells #[.int .u8 c.k, .int .u8 c.v.ty, .int .i64 c.v.n, .int .u64 c.v.x, .int .u64 c.v.y, .string c.v.s] 127)).grown hgrow (fun j hj=>(hl7 j hj).1))
     have HNW:=Hm ((HV7.out.alloc (.cells #[.int .u8 c.k, .int .u8 c.v.ty, .int .i64 c.v.n, .int .u64 c.v.x, .int .u64 c.v.y, .string c.v.s] 127)).grown hgrow (fun j hj=>by have:=hl7 j hj;simp;omega))
     clear hown' hgrow hl7 hl1 hl2 k7 z7 HO7 HP7 HR7 HT7 HV7
     by_cases hm:0<m
     ·rw [if_pos hm] at HS
      go_upto_region 20 with (at_builtin;refine wpList_append_own _ rfl _ _ 51 rfl w5.heap.size 104 j0 _ 2 16 Tryz.underlying51 hj hy0 hy1 hy2 rfl (by decide) _ _ _ rfl (HN2.out.alloc _) ⟨_,0,none⟩ 1 1 (Ho.cells ⟨k,m⟩) rfl rfl ?d1 ?d2 ?d3 ?d4 ?d5 ?_)
      case d1=>exact cells_new _ #[.int .i64 (k:Int), .int .i64 (m:Int)] _
      case d2=>intro u hu;simp [Ho.cells] at hu;rcases hu with rfl|rfl<;>rfl
      case d3=>unfold maxLen;omega
      case d4=>omega
      case d5=>have:=HNT.out.size;simp;omega
      intro u' w9 hown' hgrow _
      have hl7:=owns_lt2 HN2.out
      have HM2:=Hm hown'
      have HM1:=Hm (owns_grown2 (HN1.out.alloc (.cells #[.int .i64 (k:Int), .int .i64 (m:Int)] 104)) hgrow (fun q hq e=>owns_apart HN1.out HN2.out (by decide) q hq e))
      have HMR:=Hm ((HNR.out.ext ((Ext.refl _).alloc (.cells #[.int .i64 (k:Int), .int .i64 (m:Int)] 104))).grown hgrow (fun j hj=>by have:=hl7 j hj;omega))
      have HMT:=Hm ((HNT.out.alloc (.cells #[.int .i64 (k:Int), .int .i64 (m:Int)] 104)).grown hgrow (fun j hj=>(hl7 j hj).1))
      have HMW:=Hm ((HNW.out.alloc (.cells #[.int .i64 (k:Int), .int .i64 (m:Int)] 104)).grown hgrow (fun j hj=>by have:=hl7 j hj;simp;omega))
      clear hown' hgrow hl7 HN1 HN2 HNR HNT HNW
      go_wp2
      go_roundw
      case rel=>exact ⟨k+1,by omega,by go_num,Hm (by rw [HS.out,List.map_append,List.flatten_append];simpa using HM1.out),Hm (by rw [HS.out,List.map_append,List.flatten_append,List.length_append];simpa using HM2.out),Hm (by rw [HS.out];exact HMR.out),HMT,HMW⟩
      case measure=>simp [intOf];omega
     ·rw [if_neg hm] at HS
      have hm0:m=0:=by omega
      subst hm0
      go_wp2
      go_roundw
      case rel=>exact ⟨k+1,by omega,by go_num,Hm (by rw [HS.out,List.map_append,List.flatten_append];simpa using HN1.out),Hm (by rw [HS.out];exact HN2.out),Hm (by rw [HS.out];exact HNR.out),HNT,HNW⟩
      case measure=>simp [intOf];omega
   ·have hkk:k=L.length:=by omega
    subst hkk
    have hkl:=HTlen.out _ (Nat.le_refl _)
    have HF:=HTfin
    obtain ⟨P,hP⟩:∃P,P=T L.length:=⟨_,rfl⟩
    rw [←hP] at HF hown hown2 hr hkl
    have hTw:Hid (Tch g w wr):=Hm ((Tch.of_ext ((Ext.refl w).alloc _)).trans hTW.out)
    have hz6:=hT5.out.size
    obtain ⟨a8,c8,rfl⟩:=owns_shape hown.out
    obtain ⟨a9,c9,rfl⟩:=owns_shape hown2.out
    have bdP:=hr.out.bad
    have hLc:cols.length≤L.length:=by have:=HLN.out;omega
    have glP:=hr.out.lt
    clear hP HTlen HThol HTnull HTcell HTfin
    by_cases hpe:P.2.e=0
    ·have hpe2:(P.2.e !=0)=false:=by simpa using hpe
     have HFF:=Hm (HF.out.trans (show finT P=P by unfold finT;rw [if_neg (by simpa using hpe)]))
     clear hpe
     go_wp2
     go_ret2
     rw [HFF.out]
     unfold RTkPostN
     rw [hkl]
     refine ⟨a8,c8,a9,c9,rfl, ?_, ?_,fun q o e=>by have:=owns_at hown.out q o e;omega,fun q o e=>by have:=owns_at hown2.out q o e;omega,hr.out,hTw.out,owns_nil0 hown.out,owns_nil0 hown2.out⟩
     ·have:=Sl.of_owns (base:=w5.heap.size) (e:=127) (xss:=P.1.1.map K.rc) (by rw [List.length_map,hkl];exact hown.out) rc_len
      exact this
     ·have:=Sl.of_owns (base:=w5.heap.size) (e:=104) (xss:=P.1.2.map Ho.cells) (by rw [List.length_map];exact hown2.out) ho_len
      exact this
    ·have hpe2:(P.2.e !=0)=true:=by simpa using hpe
     have HFF:=Hm (HF.out.trans (show finT P=(([], []),P.2) by unfold finT;rw [if_pos hpe]))
     clear hpe
     go_wp2
     go_ret2
     exact RTkPost.bad HFF.out hr.out hTw.out
theorem rtakeref_any (g d:Nat) (st:RS) (w:World) (h:RF w g d st):
 Calls Tryz.prog 28 #[.pointer (some ⟨g,0,none⟩)] w (FPost g d w (.agg #[.int .u32 (refR st).1.o, .int .u32 (refR st).1.v]) (refR st).2):=by
 have H:=Hm h
 have HN1:=Hm (fun W (h:RF W g d st)=>fuint_any g d st 4294967295 W h (by decide))
 have HN2:=Hm (fun W (h:RF W g d (uintR 4294967295 st).2)=>fuint_any g d _ 4294967295 W h (by decide))
 have HR:Hid (refR st=(⟨((uintR 4294967295 st).1:Nat),((uintR 4294967295 (uintR 4294967295 st).2).1:Nat)⟩,(uintR 4294967295 (uintR 4294967295 st).2).2)):=Hm rfl
 have hlt:=h.lt
 have hx1:=uintR_u32 st
 have hy1:=uintR_u32 (uintR 4294967295 st).2
 unfold FPost at HN1 HN2⊢
 rw [HR.out]
 simp only
 generalize (uintR 4294967295 (uintR 4294967295 st).2).2=s2 at HN2⊢
 generalize (uintR 4294967295 (uintR 4294967295 st).2).1=y at HN2 hy1⊢
 generalize (uintR 4294967295 st).2=s1 at HN1 HN2⊢
 generalize (uintR 4294967295 st).1=x at HN1 hx1⊢
 have hwx:IntKind.u32.wrap (x:Int)=(x:Int):=by simp [IntKind.wrap,IntKind.signed,IntKind.bits];omega
 have hwy:IntKind.u32.wrap (y:Int)=(y:Int):=by simp [IntKind.wrap,IntKind.signed,IntKind.bits];omega
 clear h HR
 have hgw:g≠w.heap.size:=by omega
 go_enter Tryz.func28,Tryz.ntmps28
 go_upto_region 2 with (go_at_call 27;refine (HN1.out _ (H.out.ext (by exact eX))).mono ?_;rintro e w1 ⟨rfl,h1,t1⟩;have H1:=Hm h1;have T1:=Hm ((Tch.of_ext ((Ext.refl w).alloc _)).trans t1);have HV1:=Hm ((Blk.new w #[.int .u32 0, .int .u32 0] 46).tch t1 hgw.symm);clear h1 t1)
 go_wp2_with (go_at_call 27;refine (HN2.out _ H1.out).mono ?_;rintro e w2 ⟨rfl,h2,t2⟩;have H2:=Hm h2;have T2:=Hm (T1.out.trans t2);have HV2:=Hm (HV1.out.tch t2 hgw.symm);clear h2 t2;have gv:=HV2.out.cell;have fv:=HV2.out.frozen;have zv:=HV2.out.lt)
 have HG:=Hm (And.intro hlt hgw)
 have hr:RF ((w2.setCell ⟨w.heap.size,0,none⟩ (.int .u32 x)).setCell ⟨w.heap.size,1,none⟩ (.int .u32 y)) g d s2:=(H2.out.set HG.out.1 0 _).set HG.out.1 1 _
 have ht:Tch g w ((w2.setCell ⟨w.heap.size,0,none⟩ (.int .u32 x)).setCell ⟨w.heap.size,1,none⟩ (.int .u32 y)):=(T2.out.setNew (Nat.le_refl _) 0 _).setNew (Nat.le_refl _) 1 _
 simp [bodyPost,results,Tryz.results28,go_sem, *]
def RTakeQ (p:Pt) (E:Int) (w:World) (e:Ending) (w' :World):Prop:=
 ∃ba aa ra ha ga bc ac rc hc gc,e= .returned (.tuple #[.agg #[.int .u8 p.e.kind, .int .u32 p.e.ao, .int .u32 p.e.av, .int .u8 p.e.old, .slice ba p.e.b.length bc, .slice aa p.e.a.length ac, .slice ra p.e.rs.length rc, .int .u8 p.e.fl, .slice ha p.hb.length hc, .slice ga p.ha.length gc], .int .i64 E])∧PartHasR p w' ba aa ra ha ga bc ac rc hc gc∧Ext w w'∧((ba=none→bc=0)∧(aa=none→ac=0))
theorem res_rpart {W:World} {b:Nat} {v0 v1 v2 v3 v4 v5 v6 v7 v8 v9 E:Value} {tm:Array Value} (h:Blk W b #[v0,v1,v2,v3,v4,v5,v6,v7,v8,v9] 53) (ht:tm.getD 8 undef= .pointer (some ⟨b,0,none⟩)) (hm:tm.getD 9 undef=E):
 (results Tryz.f8 tm).run Tryz.prog W= .ok (.tuple #[.agg #[v0,v1,v2,v3,v4,v5,v6,v7,v8,v9],E]) W:=by
 have c:=h.cell
 have c0:=c 0
 have c1:=c 1
 have c2:=c 2
 have c3:=c 3
 have c4:=c 4
 have c5:=c 5
 have c6:=c 6
 have c7:=c 7
 have c8:=c 8
 have c9:=c 9
 clear c h
 simp at c0 c1 c2 c3 c4 c5 c6 c7 c8 c9
 rw [Array.getD_eq_getD_getElem?] at ht hm
 simp [results,Tryz.results8,go_sem,ht,hm,c0,c1,c2,c3,c4,c5,c6,c7,c8,c9]
theorem Tryz.infoRfR:(Tryz.prog.info? 46).map (fun i=>(i.zero,i.size,i.bytes))=some (some (.agg #[.int .u32 0, .int .u32 0]),2,8):=by kernel_rfl
theorem rtake7_any (ver:Int) (v:Value) (l:List Int) (U:Value) (Ls:List Rl) (w:World) (hl:AB w v l) (hlen:l.length≤1000000) (hb:isB l) (hv:ver=1∨ver=2):
 Calls Tryz.prog 8 #[U, .int .u8 7,v, .int .u8 ver] w (RTakeQ (takeEP Ls 7 l ver) (takeEE Ls 7 l ver) w):=by
 obtain ⟨i0,hi,hz0,hz1,hz2⟩:=info_parts Tryz.infoRfR
 have HE:Hid (takeEE Ls 7 l ver=endE (truncR ⟨l,0⟩).2):=Hm (by unfold takeEE;rw [if_neg (by omega),if_pos hv];rfl)
 have HP:Hid (takeEP Ls 7 l ver=if endE (truncR ⟨l,0⟩).2=0 then (truncR ⟨l,0⟩).1 else Pt.zero):=Hm (by unfold takeEP;rw [HE.out];rfl)
 rw [HE.out,HP.out]
 clear HE HP
 have hT:truncR ⟨l,0⟩=(⟨⟨7,0,0,0, [], [],(refsR (uintR 8 (byteR ⟨l,0⟩).2).2 (uintR 8 (byteR ⟨l,0⟩).2).1).1,(byteR ⟨l,0⟩).1⟩, [], []⟩,(refsR (uintR 8 (byteR ⟨l,0⟩).2).2 (uintR 8 (byteR ⟨l,0⟩).2).1).2):=rfl
 have HBY:=Hm (fun g W (h:RF W g 0 ⟨l,0⟩)=>fbyte_any g 0 ⟨l,0⟩ W h)
 have HUI:=Hm (fun g W (h:RF W g 0 (byteR ⟨l,0⟩).2)=>fuint_any g 0 (byteR ⟨l,0⟩).2 8 W h (by decide))
 have hn8:=uintR_le (st:=(byteR ⟨l,0⟩).2) 8
 unfold FPost at HBY HUI
 rw [hT]
 simp only
 generalize (uintR 8 (byteR ⟨l,0⟩).2).2=s2 at HUI hn8⊢
 generalize (uintR 8 (byteR ⟨l,0⟩).2).1=n at HUI hn8⊢
 generalize (byteR ⟨l,0⟩).2=s1 at HBY HUI⊢
 generalize (byteR ⟨l,0⟩).1=f at HBY⊢
 have HTR:=Hm (fun g (S:RS) W (h:RF W g 0 S)=>rtakeref_any g 0 S W h)
 have HEN:=Hm (fun g S W (h:RF W g 0 S)=>fend_any g 0 S W h)
 unfold FPost at HTR
 have HN8:=Hm hn8
 obtain ⟨a0,cp0,rfl,hsh⟩:∃a0 cp0,v= .slice a0 l.length cp0∧AB w (.slice a0 l.length cp0) l:=by
  obtain ⟨a0,cp0,rfl,h2⟩:=id hl
  exact ⟨a0,cp0,rfl,hl⟩
 clear hsh
 obtain ⟨LN,hLN⟩:∃n,n=l.length:=⟨_,rfl⟩
 rw [←hLN] at hl⊢
 obtain ⟨EE,hEE⟩:∃E,E=endE (refsR s2 n).2:=⟨_,rfl⟩
 obtain ⟨PP,hPP⟩:∃E:Pt,E=if EE=0 then (⟨⟨7,0,0,0, [], [],(refsR s2 n).1,f⟩, [], []⟩:Pt) else Pt.zero:=⟨_,rfl⟩
 rw [←hEE]
 rw [←hPP]
 have HEE:=Hm hEE
 have HPP:=Hm hPP
 clear hEE hPP
 have HRA:Hid (RF ((w.alloc (.cells #[.int .u8 0, .int .u32 0, .int .u32 0, .int .u8 0, .slice none 0 0, .slice none 0 0, .slice none 0 0, .int .u8 0, .slice none 0 0, .slice none 0 0] 53)).alloc (.cells #[.slice a0 LN cp0, .int .i64 0, .int .i64 0] 91)) (w.alloc (.cells #[.int .u8 0, .int .u32 0, .int .u32 0, .int .u8 0, .slice none 0 0, .slice none 0 0, .slice none 0 0, .int .u8 0, .slice none 0 0, .slice none 0 0] 53)).heap.size 0 ⟨l,0⟩):=Hm (RF.arg (hl.ext ((Ext.refl w).alloc _)) hb hlen)
 have hv1:(ver !=1&&ver !=2)=false:=by rcases hv with rfl|rfl<;>rfl
 have hv2:ver=1∨ver=2:=hv
 have HV:=Hm hv2
 clear hl hb hlen hT hv hv2 hv1 hLN
 go_enter Tryz.func8,Tryz.ntmps8
 rcases HV.out with rfl|rfl
 all_goals
  go_upto_region 8 with (fail)
  have HB8:Hid (Blk (((w.alloc (.cells #[.int .u8 0, .int .u32 0, .int .u32 0, .int .u8 0, .slice none 0 0, .slice none 0 0, .slice none 0 0, .int .u8 0, .slice none 0 0, .slice none 0 0] 53)).alloc (.cells #[.slice a0 LN cp0, .int .i64 0, .int .i64 0] 91)).alloc (.cells #[.int .u8 7, .int .u32 0, .int .u32 0, .int .u8 0, .slice none 0 0, .slice none 0 0, .slice none 0 0, .int .u8 0, .slice none 0 0, .slice none 0 0] 53)) w.heap.size #[.int .u8 0, .int .u32 0, .int .u32 0, .int .u8 0, .slice none 0 0, .slice none 0 0, .slice none 0 0, .int .u8 0, .slice none 0 0, .slice none 0 0] 53):=Hm (((Blk.new w _ _).alloc _).alloc _)
  have HE0:Hid (Ext w (((w.alloc (.cells #[.int .u8 0, .int .u32 0, .int .u32 0, .int .u8 0, .slice none 0 0, .slice none 0 0, .slice none 0 0, .int .u8 0, .slice none 0 0, .slice none 0 0] 53)).alloc (.cells #[.slice a0 LN cp0, .int .i64 0, .int .i64 0] 91)).alloc (.cells #[.int .u8 7, .int .u32 0, .int .u32 0, .int .u8 0, .slice none 0 0, .slice none 0 0, .slice none 0 0, .int .u8 0, .slice none 0 0, .slice none 0 0] 53))):=Hm ((((Ext.refl w).alloc _).alloc _).alloc _)
  have HBQ:Hid (Blk (((w.alloc (.cells #[.int .u8 0, .int .u32 0, .int .u32 0, .int .u8 0, .slice none 0 0, .slice none 0 0, .slice none 0 0, .int .u8 0, .slice none 0 0, .slice none 0 0] 53)).alloc (.cells #[.slice a0 LN cp0, .int .i64 0, .int .i64 0] 91)).alloc (.cells #[.int .u8 7, .int .u32 0, .int .u32 0, .int .u8 0, .slice none 0 0, .slice none 0 0, .slice none 0 0, .int .u8 0, .slice none 0 0, .slice none 0 0] 53)) (w.heap.size+1+1) #[.int .u8 7, .int .u32 0, .int .u32 0, .int .u8 0, .slice none 0 0, .slice none 0 0, .slice none 0 0, .int .u8 0, .slice none 0 0, .slice none 0 0] 53):=Hm (Blk.new' (w:=(w.alloc (.cells #[.int .u8 0, .int .u32 0, .int .u32 0, .int .u8 0, .slice none 0 0, .slice none 0 0, .slice none 0 0, .int .u8 0, .slice none 0 0, .slice none 0 0] 53)).alloc (.cells #[.slice a0 LN cp0, .int .i64 0, .int .i64 0] 91)) _ _ (by simp))
  have HRQ:Hid (RF (((w.alloc (.cells #[.int .u8 0, .int .u32 0, .int .u32 0, .int .u8 0, .slice none 0 0, .slice none 0 0, .slice none 0 0, .int .u8 0, .slice none 0 0, .slice none 0 0] 53)).alloc (.cells #[.slice a0 LN cp0, .int .i64 0, .int .i64 0] 91)).alloc (.cells #[.int .u8 7, .int .u32 0, .int .u32 0, .int .u8 0, .slice none 0 0, .slice none 0 0, .slice none 0 0, .int .u8 0, .slice none 0 0, .slice none 0 0] 53)) (w.heap.size+1) 0 ⟨l,0⟩):=Hm (by
   have h1:=HRA.out.ext ((Ext.refl _).alloc (.cells #[.int .u8 7, .int .u32 0, .int .u32 0, .int .u8 0, .slice none 0 0, .slice none 0 0, .slice none 0 0, .int .u8 0, .slice none 0 0, .slice none 0 0] 53))
   rw [World.size_alloc] at h1
   exact h1)
  have HSQ:Hid ((((w.alloc (.cells #[.int .u8 0, .int .u32 0, .int .u32 0, .int .u8 0, .slice none 0 0, .slice none 0 0, .slice none 0 0, .int .u8 0, .slice none 0 0, .slice none 0 0] 53)).alloc (.cells #[.slice a0 LN cp0, .int .i64 0, .int .i64 0] 91)).alloc (.cells #[.int .u8 7, .int .u32 0, .int .u32 0, .int .u8 0, .slice none 0 0, .slice none 0 0, .slice none 0 0, .int .u8 0, .slice none 0 0, .slice none 0 0] 53)).heap.size=w.heap.size+1+1+1):=Hm (by simp)
  obtain ⟨w0,hw0⟩:∃W,W=((w.alloc (.cells #[.int .u8 0, .int .u32 0, .int .u32 0, .int .u8 0, .slice none 0 0, .slice none 0 0, .slice none 0 0, .int .u8 0, .slice none 0 0, .slice none 0 0] 53)).alloc (.cells #[.slice a0 LN cp0, .int .i64 0, .int .i64 0] 91)).alloc (.cells #[.int .u8 7, .int .u32 0, .int .u32 0, .int .u8 0, .slice none 0 0, .slice none 0 0, .slice none 0 0, .int .u8 0, .slice none 0 0, .slice none 0 0] 53):=⟨_,rfl⟩
  rw [←hw0] at HB8 HE0 HBQ HRQ HSQ⊢
  obtain ⟨Q,hQ⟩:∃q,q=w.heap.size+1+1:=⟨_,rfl⟩
  rw [←hQ] at HBQ HSQ⊢
  obtain ⟨g,hg⟩:∃q,q=w.heap.size+1:=⟨_,rfl⟩
  rw [←hg] at HRQ⊢
  have HQG:Hid (w.heap.size<g∧g<Q∧Q<w0.heap.size):=Hm (by have:=HSQ.out;omega)
  have hqg:Q≠g:=by omega
  clear hw0 hQ hg HRA HSQ
  go_upto_region 9 with (go_at_call 26;refine (HBY.out g _ HRQ.out).mono ?_;rintro e w1 ⟨rfl,h1,t1⟩;have H1:=Hm h1;have T1:=Hm t1;have HV1:=Hm (HBQ.out.tch t1 hqg);clear h1 t1;have gv:=HV1.out.cell;have fv:=HV1.out.frozen;have zv:=HV1.out.lt)
  have HB2:Hid (Blk (w1.setCell ⟨Q,7,none⟩ (.int .u8 f)) Q #[.int .u8 7, .int .u32 0, .int .u32 0, .int .u8 0, .slice none 0 0, .slice none 0 0, .slice none 0 0, .int .u8 f, .slice none 0 0, .slice none 0 0] 53):=Hm (by
   have:=HV1.out.set 7 (.int .u8 f)
   simpa only [List.setIfInBounds_toArray,List.set_cons_zero,List.set_cons_succ] using this)
  have HR2:Hid (RF (w1.setCell ⟨Q,7,none⟩ (.int .u8 f)) g 0 s1):=Hm (H1.out.set HQG.out.2.1 7 _)
  have HK2:Hid (Kp (fun x=>x=g∨Q≤x) w0 (w1.setCell ⟨Q,7,none⟩ (.int .u8 f))):=Hm ((T1.out.kp.mono (T:=fun x=>x=g∨Q≤x) (fun x hx _=> .inl hx)).trans (T:=fun x=>x=g∨Q≤x) (Kp.set (S:=fun x=>x=g∨Q≤x) _ _ (.inr (Nat.le_refl _))) (fun x hx _=>hx))
  obtain ⟨w2,hw2⟩:∃x,x=w1.setCell ⟨Q,7,none⟩ (.int .u8 f):=⟨_,rfl⟩
  rw [←hw2] at HB2 HR2 HK2⊢
  clear gv fv zv hw2 HV1 T1 H1 HRQ HBQ
  go_upto_region 10 with (go_at_call 27;refine (HUI.out g _ HR2.out).mono ?_;rintro e w3 ⟨rfl,h3,t3⟩;have H3:=Hm h3;have HB3:=Hm (HB2.out.tch t3 hqg);have HK3:=Hm (HK2.out.trans (T:=fun x=>x=g∨Q≤x) (t3.kp.mono (T:=fun x=>x=g∨Q≤x) (fun x hx _=> .inl hx)) (fun x hx _=>hx));clear h3 t3)
  have HG3:Hid (g<w3.heap.size∧Q<w3.heap.size):=Hm (And.intro H3.out.lt HB3.out.lt)
  clear HB2 HR2 HK2
  go_wp2
  go_loopg [13] n (fun z i wr=>∃(k:Nat) (va:Option Addr) (vc:Nat),z+k=n∧i= .int .u64 k∧Hid (Blk wr Q #[.int .u8 7, .int .u32 0, .int .u32 0, .int .u8 0, .slice none 0 0, .slice none 0 0, .slice va k vc, .int .u8 f, .slice none 0 0, .slice none 0 0] 53)∧Hid (wr.ownsRow w3.heap.size 46 2 (.slice va k vc) k ((refsR s2 k).1.map Rf.cells).flatten)∧Hid (RF wr g 0 (refsR s2 k).2)∧Hid (Kp (fun x=>x=g∨Q≤x) w0 wr)∧Hid (w3.heap.size≤wr.heap.size))
  case atStart=>exact ⟨0,none,0,by omega,rfl,HB3,Hm (World.ownsRow_nil _ _ _ _),H3,HK3,Hm (Nat.le_refl _)⟩
  case round=>
   obtain ⟨k,va,vc,hzk,rfl,hX,hown,hR,hK0,hSZ⟩:=hrel
   by_cases hlt:k<n
   ·have HTK:Hid (refsR s2 (k+1)=((refsR s2 k).1++ [(refR (refsR s2 k).2).1],(refR (refsR s2 k).2).2)):=Hm (refsR_succ s2 k)
    have HTP:=Hm (fun W (h:RF W g 0 (refsR s2 k).2)=>HTR.out g (refsR s2 k).2 W h)
    obtain ⟨S,hS⟩:∃S,S=(refsR s2 k).2:=⟨_,rfl⟩
    obtain ⟨A,hA⟩:∃A,A=(refsR s2 k).1:=⟨_,rfl⟩
    rw [←hS] at HTK HTP hR
    rw [←hA] at HTK hown
    obtain ⟨r,hr⟩:∃r,r=(refR S).1:=⟨_,rfl⟩
    obtain ⟨S',hS'⟩:∃r,r=(refR S).2:=⟨_,rfl⟩
    rw [←hr,←hS'] at HTK HTP
    have HLT:=Hm hlt
    have hkn:(k:Int)<(n:Int):=by omega
    have HS:Hid (∀w',Kp (fun x=>x=g∨w3.heap.size≤x) wr w'→(∀j,w'.cell? ⟨Q,j,none⟩=(#[.int .u8 7, .int .u32 0, .int .u32 0, .int .u8 0, .slice none 0 0, .slice none 0 0, .slice va k vc, .int .u8 f, .slice none 0 0, .slice none 0 0])[j]?)∧Q<w'.heap.size):=Hm (fun w' h=>by
     have h2:=hX.out.kp h (by have:=HG3.out;have:=HQG.out;omega)
     exact ⟨h2.cell,h2.lt⟩)
    have HOWN:=hown
    clear hS hA hr hS' hlt
    go_wp2
    have hA0:Hid ((fun w' =>(∀j,w'.cell? ⟨Q,j,none⟩=(#[.int .u8 7, .int .u32 0, .int .u32 0, .int .u8 0, .slice none 0 0, .slice none 0 0, .slice va k vc, .int .u8 f, .slice none 0 0, .slice none 0 0])[j]?)∧Q<w'.heap.size) wr.drew):=Hm (HS.out _ (Kp.of_ext (Ext.refl wr).drew))
    refine wp_region_head 7 (fun w' =>(∀j,w'.cell? ⟨Q,j,none⟩=(#[.int .u8 7, .int .u32 0, .int .u32 0, .int .u8 0, .slice none 0 0, .slice none 0 0, .slice va k vc, .int .u8 f, .slice none 0 0, .slice none 0 0])[j]?)∧Q<w'.heap.size) (by kernel_rfl) (by decide) ?_
    (refine wpHd_take (i:=0) (v:= ?_) rfl (by kernel_rfl) (by kernel_rfl) (by kernel_rfl) (fun _ _ _ h=>h) (Or.inl ⟨by rfl, ?_⟩) hA0.out ?_;rotate_left 1; · (intro w' hS';(try dsimp only at hS');go_split_ands;go_simp;try with_reducible rfl))
    (refine wpHd_take (i:=1) (v:= ?_) rfl (by kernel_rfl) (by kernel_rfl) (by kernel_rfl) (fun _ _ _ h=>h) (Or.inl ⟨by rfl, ?_⟩) hA0.out ?_;rotate_left 1; · (intro w' hS';(try dsimp only at hS');go_split_ands;go_simp;try with_reducible rfl))
    (refine wpHd_take (i:=2) (v:= ?_) rfl (by kernel_rfl) (by kernel_rfl) (by kernel_rfl) (fun _ _ _ h=>h) (Or.inl ⟨by rfl, ?_⟩) hA0.out ?_;rotate_left 1; · (intro w' hS';(try dsimp only at hS');go_split_ands;go_simp;try with_reducible rfl))
    (refine wpHd_take (i:=3) (v:= ?_) rfl (by kernel_rfl) (by kernel_rfl) (by kernel_rfl) (fun _ _ _ h=>h) (Or.inl ⟨by rfl, ?_⟩) hA0.out ?_;rotate_left 1; · (intro w' hS';(try dsimp only at hS');go_split_ands;go_simp;try with_reducible rfl))
    clear hA0
    refine wpHd_one (i:=4) rfl rfl (by kernel_rfl) (fun K hK=> ?_)
    go_simp
    refine (HTP.out _ (hR.out.ext (Ext.refl wr).drew)).mono ?_
    rintro e w5 ⟨rfl,h5,t5⟩
    have H5:=Hm h5
    have HK5:Hid (Kp (fun x=>x=g) wr w5):=Hm ((Kp.of_ext (S:=fun x=>x=g) (Ext.refl wr).drew).trans t5.kp (fun x hx _=>hx))
    refine hK.out _ _ (HS.out _ (HK5.out.mono (fun x hx _=> .inl hx))) (fun hA=> ?_)
    clear hK K hA h5 t5
    have HOW5:=Hm (owns_kp HOWN.out HK5.out (fun b hb e=>by have:=(HOWN.out.lt b hb).1;have:=HG3.out;omega))
    refine wpHd_one (i:=5) rfl rfl (by kernel_rfl) (fun K hK=> ?_)
    go_simp
    refine hK.out _ _ (HS.out _ ((HK5.out.mono (T:=fun x=>x=g∨w3.heap.size≤x) (fun x hx _=> .inl hx)).trans (Kp.of_ext (S:=fun x=>x=g) ((Ext.refl w5).alloc _)) (fun x hx _=> .inl hx))) (fun hA=> ?_)
    clear hK K hA
    refine wpHd_one (i:=6) rfl rfl (by kernel_rfl) (fun K hK=> ?_)
    refine wp_append_lies _ _ _ 48 (by rfl) w3.heap.size 46 i0 _ 2 8 Tryz.underlying48 hi hz0 hz1 hz2 rfl (by decide) (.slice va k vc) k _ (by rfl) (owns_ext HOW5.out ((Ext.refl w5).alloc _)) ⟨_,0,none⟩ 1 1 r.cells (by rfl) rfl (cells_new _ #[.int .u32 r.o, .int .u32 r.v] _) (by intro u hu;simp [Rf.cells] at hu;rcases hu with rfl|rfl<;>rfl) (by decide) (by have:=HLT.out;have:=HN8.out;unfold maxLen;omega) (by have:=HLT.out;have:=HN8.out;omega) (by have:=HK5.out.size;have:=hSZ.out;simp;omega) _ rfl ?_
    intro g4 cap4 w4 hown4 hgrow4 hat4 hlt4
    have HO4:=Hm hown4
    have HKA:Hid (Kp (fun x=>w3.heap.size≤x) w5 w4):=Hm ((Kp.of_ext (S:=fun x=>w3.heap.size≤x) ((Ext.refl w5).alloc _)).trans (Kp.of_grown hgrow4) (fun x hx _=>(HOW5.out.lt x hx).1))
    have HKG:Hid (Kp (fun x=>x=g∨w3.heap.size≤x) wr w4):=Hm ((HK5.out.mono (T:=fun x=>x=g∨w3.heap.size≤x) (fun x hx _=> .inl hx)).trans HKA.out (fun x hx _=> .inr hx))
    refine hK.out _ _ (HS.out _ HKG.out) (fun hA=> ?_)
    clear hK K hA
    have HR4:Hid (RF w4 g 0 S'):=Hm ((H5.out.ext ((Ext.refl w5).alloc _)).grown hgrow4 (fun j hj=>by have:=(HOW5.out.lt j hj).1;have:=HG3.out;omega))
    clear hown4 hgrow4 hat4 hlt4
    have hX4:Hid (Blk w4 Q #[.int .u8 7, .int .u32 0, .int .u32 0, .int .u8 0, .slice none 0 0, .slice none 0 0, .slice va k vc, .int .u8 f, .slice none 0 0, .slice none 0 0] 53):=Hm (hX.out.kp HKG.out (by have:=HG3.out;have:=HQG.out;omega))
    have gX:=hX4.out.cell
    have gXf:=hX4.out.frozen
    have zX:=hX4.out.lt
    refine wpHd_tail (by kernel_rfl) ?_
    simp only [List.drop_succ_cons,List.drop_zero]
    go_wp2
    go_roundg (n - (k+1))
    case measure=>have:=HLT.out;omega
    case rel=>
     refine ⟨k+1,some ⟨g4,0,none⟩,cap4,Nat.sub_add_cancel HLT.out,by go_num,Hm ?_,Hm ?_,Hm ?_,Hm ?_,Hm (by have:=hSZ.out;have:=HKG.out.size;simp [World.setCell];omega)⟩
     ·have:=hX4.out.set 6 (.slice (some ⟨g4,0,none⟩) (k+1) cap4)
      simpa only [List.setIfInBounds_toArray,List.set_cons_zero,List.set_cons_succ] using this
     ·rw [HTK.out,List.map_append,List.flatten_append]
      exact owns_set (by simpa using HO4.out) (by show Q<_;have:=HG3.out;omega) _
     ·rw [HTK.out]
      exact HR4.out.set HQG.out.2.1 6 _
     ·exact (hK0.out.trans (T:=fun x=>x=g∨Q≤x) (HKG.out.mono (T:=fun x=>x=g∨Q≤x) (fun x hx _=>by have:=HG3.out;omega)) (fun x hx _=>hx)).trans (T:=fun x=>x=g∨Q≤x) (Kp.set (S:=fun x=>x=g∨Q≤x) _ _ (.inr (Nat.le_refl _))) (fun x hx _=>hx)
   ·obtain rfl:k=n:=by omega
    have HEX:=Hm (HEN.out g _ _ hR.out)
    rw [←HEE.out] at HEX
    have HBZ:=Hm (HB8.out.kp hK0.out (by have:=HQG.out;omega))
    have HEW:=Hm (Kp.ext HE0.out (fun x hx _=>by have:=HQG.out;omega) hK0.out)
    have gX:=hX.out.cell
    have zX:=hX.out.lt
    have g8:=HBZ.out.cell
    have f8:=HBZ.out.frozen
    have z8:=HBZ.out.lt
    have hAL:(refsR s2 k).1.length=k:=refsR_len s2 k
    have HSA:Hid (Sl wr (.slice va k vc) 2 ((refsR s2 k).1.map Rf.cells)):=Hm (Sl.of_owns (base:=w3.heap.size) (e:=46) (by rw [List.length_map,hAL];exact hown.out) (by intro xs hxs;simp at hxs;obtain ⟨_,_,rfl⟩:=hxs;rfl))
    have HVA:Hid (∀b o,va=some ⟨b,o,none⟩→w3.heap.size≤b):=Hm (fun b o e=>(hown.out.lt b (by rw [e];rfl)).1)
    have HAL:=Hm hAL
    have HXX:=hX
    clear hAL gX zX g8 f8 z8 hlt hzk HEN
    by_cases hE0:EE=0
    ·subst hE0
     have HP:Hid (PP=_):=Hm (HPP.out.trans (if_pos rfl))
     go_wp2_with (go_at_call 32;refine HEX.out.mono ?_;rintro e w5 ⟨rfl,hb5⟩;have HB5:=Hm hb5;clear hb5;have HBZ5:=Hm (HBZ.out.ext HB5.out);have HX5:=Hm (HXX.out.ext HB5.out);have gX:=HX5.out.cell;have zX:=HX5.out.lt;have g8:=HBZ5.out.cell;have f8:=HBZ5.out.frozen;have z8:=HBZ5.out.lt)
     refine bodyPost_ret (res_rpart (Blk.ten HBZ5.out) rfl rfl) rfl ?_
     have hp:=HP.out
     subst hp
     refine ⟨none,none,va,none,none,0,0,vc,0,0,by simp only [HAL.out];rfl,⟨Sl.nil0 _ _,Sl.nil0 _ _, ?_,Sl.nil0 _ _,Sl.nil0 _ _⟩,(HEW.out.trans HB5.out).ten (Nat.le_refl _),fun _=>rfl,fun _=>rfl⟩
     show Sl _ (.slice va (refsR s2 k).1.length vc) 2 _
     rw [HAL.out]
     exact (HSA.out.ext HB5.out).kp Kp.ten (fun _ b o e=>by have:=HVA.out b o e;have:=HG3.out;have:=HQG.out;omega)
    ·have hne:(EE !=0)=true:=by simpa using hE0
     have HP:Hid (PP=Pt.zero):=Hm (HPP.out.trans (if_neg hE0))
     clear hE0
     go_wp2_with (go_at_call 32;refine HEX.out.mono ?_;rintro e w5 ⟨rfl,hb5⟩;have HB5:=Hm hb5;clear hb5;have HBZ5:=Hm (HBZ.out.ext HB5.out);have g8:=HBZ5.out.cell;have f8:=HBZ5.out.frozen;have z8:=HBZ5.out.lt)
     refine bodyPost_ret (res_rpart (Blk.ten HBZ5.out) rfl rfl) rfl ?_
     rw [HP.out]
     exact ⟨none,none,none,none,none,0,0,0,0,0,rfl,PartHasR.zero _,(HEW.out.trans HB5.out).ten (Nat.le_refl _),fun _=>rfl,fun _=>rfl⟩
end Go.Proofs.YtodbhliidbclcaaGreat
