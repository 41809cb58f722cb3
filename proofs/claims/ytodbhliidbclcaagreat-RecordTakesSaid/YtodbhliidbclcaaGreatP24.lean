/-
The reference's cell: large and take.
-/
import Derived.Deep.RegionLaw
import Derived.Test.YtodbhliidbclcaaGreatP23
set_option maxRecDepth 100000
set_option maxHeartbeats 16000000
namespace Go.Proofs.YtodbhliidbclcaaGreat
open Go.RowKit
theorem RF.bad {w:World} {g d:Nat} {st:RS} (hr:RF w g d st):w.cell? ⟨g,2,none⟩=some (.int .i64 st.e):=by
 obtain ⟨v,L,a,h1,_⟩:=hr;exact h1.cell 2
theorem RF.len5 {w:World} {g d:Nat} {st:RS} (hr:RF w g d st):st.l.length≤1000000:=by
 obtain ⟨_,_,_,_,_,_,hl,_,hlen⟩:=hr;rw [hl];split<;>simp<;>omega
def K.aggR (c:K):Value:= .agg #[.int .u8 c.k, .int .u8 c.v.ty, .int .i64 c.v.n, .int .u64 c.v.x, .int .u64 c.v.y, .string c.v.s]
def RKPost (g d:Nat) (w:World) (R:(K×Nat)×RS) (e:Ending) (w' :World):Prop:=∃(c:K) (m:Nat),e= .returned (.tuple #[c.aggR, .int .i64 m])∧(R.2.e=0→(c,m)=R.1)∧RF w' g d R.2∧Tch g w w'
theorem RKPost.mk' {g d:Nat} {w w' :World} {R:(K×Nat)×RS} (c:K) (m:Nat) {S:RS} (h2:R.2=S) (h1:R.2.e=0→(c,m)=R.1) (hr:RF w' g d S) (ht:Tch g w w'):RKPost g d w R (.returned (.tuple #[c.aggR, .int .i64 m])) w' :=
 ⟨c,m,rfl,h1,by rw [h2];exact hr,ht⟩
theorem Blk.past5 {W:World} {a b:Nat} {cs:Array Value} {v1 v2 v3 v4 v5:Value} {T:TypeId} (h:Blk W b cs T) (hne:b≠a):
 Blk (((((W.setCell ⟨a,1,none⟩ v1).setCell ⟨a,2,none⟩ v2).setCell ⟨a,3,none⟩ v3).setCell ⟨a,4,none⟩ v4).setCell ⟨a,5,none⟩ v5) b cs T:=
 ((((h.other _ _ hne).other _ _ hne).other _ _ hne).other _ _ hne).other _ _ hne
theorem RF.past5 {W:World} {g d b:Nat} {st:RS} {v1 v2 v3 v4 v5:Value} (h:RF W g d st) (hb:g<b):
 RF (((((W.setCell ⟨b,1,none⟩ v1).setCell ⟨b,2,none⟩ v2).setCell ⟨b,3,none⟩ v3).setCell ⟨b,4,none⟩ v4).setCell ⟨b,5,none⟩ v5) g d st:=((((h.set hb 1 _).set hb 2 _).set hb 3 _).set hb 4 _).set hb 5 _
theorem Tch.past5 {w W:World} {g b:Nat} {v1 v2 v3 v4 v5:Value} (h:Tch g w W) (hb:w.heap.size≤b):
 Tch g w (((((W.setCell ⟨b,1,none⟩ v1).setCell ⟨b,2,none⟩ v2).setCell ⟨b,3,none⟩ v3).setCell ⟨b,4,none⟩ v4).setCell ⟨b,5,none⟩ v5):=((((h.setNew hb 1 _).setNew hb 2 _).setNew hb 3 _).setNew hb 4 _).setNew hb 5 _
theorem res_rtk {W:World} {b:Nat} {k ty n x y:Int} {s:ByteArray} {m:Int} {tm:Array Value} (h:Blk W b #[.int .u8 k, .int .u8 ty, .int .i64 n, .int .u64 x, .int .u64 y, .string s] 127) (ht:tm.getD 6 undef= .pointer (some ⟨b,0,none⟩)) (hm:tm.getD 7 undef= .int .i64 m):
 (results Tryz.f87 tm).run Tryz.prog W= .ok (.tuple #[.agg #[.int .u8 k, .int .u8 ty, .int .i64 n, .int .u64 x, .int .u64 y, .string s], .int .i64 m]) W:=by
 have c:=h.cell
 have c0:=c 0
 have c1:=c 1
 have c2:=c 2
 have c3:=c 3
 have c4:=c 4
 have c5:=c 5
 clear c h
 simp at c0 c1 c2 c3 c4 c5
 rw [Array.getD_eq_getD_getElem?] at ht hm
 simp [results,Tryz.results87,go_sem,ht,hm,c0,c1,c2,c3,c4,c5]
theorem largeR_gave {e:Int} (he:e≠0):(largeR ⟨[],e⟩).2=⟨[],e⟩:=by
 unfold largeR
 simp only [uintR_gave he]
 rw [if_pos (by decide)]
 unfold giveS
 rw [if_neg he]
theorem rclr_any (g d:Nat) (st:RS) (w:World) (h:RF w g d st):
 Calls Tryz.prog 118 #[.pointer (some ⟨g,0,none⟩)] w (FPost g d w (.int .i64 (largeR st).1) (largeR st).2):=by
 have H:=Hm h
 have HU:=Hm (fun w h=>fuint_any g d st 2048 w h (by omega))
 have hle:=uintR_le (st:=st) 2048
 unfold largeR
 simp only
 generalize uintR 2048 st=U at*
 obtain ⟨n,st1⟩:=U
 simp only at*
 clear h
 by_cases h64:n≤64
 ·rw [if_pos h64]
  have HF:=Hm (fun w h=>fgive_any g d st1 4 w h (by decide))
  have h65:n<65:=by omega
  go_enter Tryz.func118,Tryz.ntmps118
  go_wp2_with (first
   |(go_at_call 27;refine (HU.out _ H.out).mono ?_;rintro e w1 ⟨rfl,hr,ht⟩;have HR:=Hm hr;have HT:=Hm ht;clear hr ht)
   |(go_at_call 30;refine (HF.out _ HR.out).mono ?_;rintro e w2 ⟨rfl,hr,ht⟩;have HR2:=Hm hr;have HT2:=Hm ht;clear hr ht))
  go_ret
  exact ⟨rfl,HR2.out,HT.out.trans HT2.out⟩
 ·rw [if_neg h64]
  have h64' : ¬ n<65:=by omega
  clear h64
  go_enter Tryz.func118,Tryz.ntmps118
  go_wp2_with (first
   |(go_at_call 27;refine (HU.out _ H.out).mono ?_;rintro e w1 ⟨rfl,hr,ht⟩;have HR:=Hm hr;have HT:=Hm ht;clear hr ht))
  go_ret
  exact ⟨rfl,HR.out,HT.out⟩
theorem rtk_ver (g d:Nat) (st:RS) (kind ver:Int) (w:World) (h:RF w g d st) (hv: ¬ (ver=1∨ver=2)):
 Calls Tryz.prog 87 #[.pointer (some ⟨g,0,none⟩), .int .u8 kind, .int .u8 ver] w (RKPost g d w (preC kind ver st)):=by
 have H:=Hm h
 have hg:=h.lt
 have HF:=Hm (fun w h=>fgive_any g d st 18 w h (by decide))
 have HO:Hid (preC kind ver st=((K.zero,0),giveS st 18)):=Hm (by unfold preC;rw [if_pos hv])
 clear h
 have hv1:(ver !=1)=true:=by simp;omega
 have hv2:(ver !=2)=true:=by simp;omega
 clear hv
 go_enter Tryz.func87,Tryz.ntmps87
 go_wp2_with (first
  |(go_at_call 30;refine (HF.out _ (H.out.ext (by exact eX))).mono ?_;rintro e w1 ⟨rfl,hr1,ht1⟩;have h6:=(Blk.new w #[.int .u8 0, .int .u8 0, .int .i64 0, .int .u64 0, .int .u64 0, .string ByteArray.empty] 127).tch ht1 (by omega);have HB6_1:=Hm h6;have k6_1:=h6.cell;have f6_1:=h6.frozen;have z6_1:=h6.lt;have HR1:=Hm hr1;have HT1:Hid (Tch g w w1):=Hm (((Tch.refl g w).alloc _).trans ht1);clear h6 hr1 ht1))
 refine bodyPost_ret (v:= .tuple #[K.zero.aggR, .int .i64 (0:Nat)]) (res_rtk (Blk.six HB6_1.out) rfl rfl) rfl ?_
 exact RKPost.mk' K.zero 0 (by rw [HO.out]) (fun _=>by rw [HO.out]) (RF.six HR1.out hg) (Tch.six HT1.out (Nat.le_refl _))
theorem rtk_kind (g d:Nat) (st:RS) (kind ver:Int) (w:World) (h:RF w g d st) (hv:ver=1∨ver=2) (hk:kind<1∨6<kind):
 Calls Tryz.prog 87 #[.pointer (some ⟨g,0,none⟩), .int .u8 kind, .int .u8 ver] w (RKPost g d w (preC kind ver st)):=by
 have H:=Hm h
 have hg:=h.lt
 have HF:=Hm (fun w h=>fgive_any g d st 11 w h (by decide))
 have HO:Hid (preC kind ver st=((K.zero,0),giveS st 11)):=Hm (by unfold preC;rw [if_neg (fun h=>h hv),if_pos hk])
 clear h
 rcases hv with rfl|rfl
 all_goals
  rcases hk with hk|hk
  all_goals
   go_enter Tryz.func87,Tryz.ntmps87
   go_wp2_with (first
    |(go_at_call 30;refine (HF.out _ (H.out.ext (by exact eX))).mono ?_;rintro e w1 ⟨rfl,hr1,ht1⟩;have h6:=(Blk.new w #[.int .u8 0, .int .u8 0, .int .i64 0, .int .u64 0, .int .u64 0, .string ByteArray.empty] 127).tch ht1 (by omega);have HB6_1:=Hm h6;have k6_1:=h6.cell;have f6_1:=h6.frozen;have z6_1:=h6.lt;have HR1:=Hm hr1;have HT1:Hid (Tch g w w1):=Hm (((Tch.refl g w).alloc _).trans ht1);clear h6 hr1 ht1))
   refine bodyPost_ret (v:= .tuple #[K.zero.aggR, .int .i64 (0:Nat)]) (res_rtk (Blk.six HB6_1.out) rfl rfl) rfl ?_
   exact RKPost.mk' K.zero 0 (by rw [HO.out]) (fun _=>by rw [HO.out]) (RF.six HR1.out hg) (Tch.six HT1.out (Nat.le_refl _))
theorem rtk_one_lacks (g d:Nat) (st:RS) (kind:Int) (w:World) (h:RF w g d st) (hk1:1≤kind) (hk6:kind≤6) (t:Int) (S:RS) (hb:byteR st=(t,S)) (he:S.e≠0):
 Calls Tryz.prog 87 #[.pointer (some ⟨g,0,none⟩), .int .u8 kind, .int .u8 1] w (RKPost g d w (firstC kind st)):=by
 have H:=Hm h
 have hg:=h.lt
 have HB:=Hm (fun w h=>fbyte_any g d st w h)
 rw [hb] at HB
 have HO:Hid (firstC kind st=((K.zero,0),S)):=Hm (by unfold firstC;rw [hb];exact if_pos he)
 have he2:(S.e !=0)=true:=by simpa using he
 clear h hb he
 go_enter Tryz.func87,Tryz.ntmps87
 go_wp2_with (first
  |(go_at_call 26;refine (HB.out _ (H.out.ext (by exact eX))).mono ?_;rintro e w1 ⟨rfl,hr1,ht1⟩;have h8:=(Blk.new' (w:=w.alloc (.cells #[.int .u8 0, .int .u8 0, .int .i64 0, .int .u64 0, .int .u64 0, .string ByteArray.empty] 127)) (b:=w.heap.size+1) #[.int .u8 2, .int .u8 kind, .int .i64 0, .int .u64 0, .int .u64 0, .string ByteArray.empty] 127 (by simp)).tch ht1 (by omega);have h6:=((Blk.new w #[.int .u8 0, .int .u8 0, .int .i64 0, .int .u64 0, .int .u64 0, .string ByteArray.empty] 127).alloc (.cells #[.int .u8 2, .int .u8 kind, .int .i64 0, .int .u64 0, .int .u64 0, .string ByteArray.empty] 127)).tch ht1 (by omega);have HB8_1:=Hm h8;have HB6_1:=Hm h6;have k8_1:=h8.cell;have f8_1:=h8.frozen;have z8_1:=h8.lt;have k6_1:=h6.cell;have f6_1:=h6.frozen;have HR1:=Hm hr1;have HT1:Hid (Tch g w w1):=Hm ((((Tch.refl g w).alloc _).alloc _).trans ht1);have bd1:=hr1.bad;clear h8 h6 hr1 ht1))
 refine bodyPost_ret (v:= .tuple #[K.zero.aggR, .int .i64 (0:Nat)]) (res_rtk (Blk.six HB6_1.out) rfl rfl) rfl ?_
 exact RKPost.mk' K.zero 0 (by rw [HO.out]) (fun _=>by rw [HO.out]) (RF.six HR1.out hg) (Tch.six HT1.out (Nat.le_refl _))
theorem rtk_one (g d:Nat) (st:RS) (kind:Int) (w:World) (h:RF w g d st) (hk1:1≤kind) (hk6:kind≤6) (t:Int) (S T:RS) (hb:byteR st=(t,S)) (he:S.e=0)
 (hc:((2<t∨(t≠1∧kind≠5∧kind≠6))∧T=giveS S 7)∨((t=1∨(t≤2∧(kind=5∨kind=6)))∧T=S))
 (X:(K×Nat)×RS) (hX:X=if t=0 then ((⟨1,V.zero⟩,0),T) else if t=2 then ((fullT kind,(largeR T).1),(largeR T).2) else tailC kind T)
 (h2:(firstC kind st).2=X.2) (h1:(firstC kind st).2.e=0→(firstC kind st).1=X.1):
 Calls Tryz.prog 87 #[.pointer (some ⟨g,0,none⟩), .int .u8 kind, .int .u8 1] w (RKPost g d w (firstC kind st)):=by
 have H:=Hm h
 have hg:=h.lt
 have HB:=Hm (fun w h=>fbyte_any g d st w h)
 rw [hb] at HB
 have HF:=Hm (fun w h=>fgive_any g d S 7 w h (by decide))
 have HC:=Hm hc
 have H2:=Hm h2
 have H1:=Hm h1
 have HX:=Hm hX
 have HE:=Hm he
 clear h hb hc h1 h2 hX he
 go_enter Tryz.func87,Tryz.ntmps87
 go_upto_region 10 with (first
  |(go_at_call 26;refine (HB.out _ (H.out.ext (by exact eX))).mono ?_;rintro e w1 ⟨rfl,hr1,ht1⟩;have h8:=(Blk.new' (w:=w.alloc (.cells #[.int .u8 0, .int .u8 0, .int .i64 0, .int .u64 0, .int .u64 0, .string ByteArray.empty] 127)) (b:=w.heap.size+1) #[.int .u8 2, .int .u8 kind, .int .i64 0, .int .u64 0, .int .u64 0, .string ByteArray.empty] 127 (by simp)).tch ht1 (by omega);have h6:=((Blk.new w #[.int .u8 0, .int .u8 0, .int .i64 0, .int .u64 0, .int .u64 0, .string ByteArray.empty] 127).alloc (.cells #[.int .u8 2, .int .u8 kind, .int .i64 0, .int .u64 0, .int .u64 0, .string ByteArray.empty] 127)).tch ht1 (by omega);have HB8_1:=Hm h8;have HB6_1:=Hm h6;have k8_1:=h8.cell;have f8_1:=h8.frozen;have z8_1:=h8.lt;have k6_1:=h6.cell;have f6_1:=h6.frozen;have HR1:=Hm hr1;have HT1:Hid (Tch g w w1):=Hm ((((Tch.refl g w).alloc _).alloc _).trans ht1);have bd1:=hr1.bad;clear h8 h6 hr1 ht1))
 rw [HE.out] at bd1
 go_upto_region 12 with (fail)
 clear bd1 k8_1 f8_1 k6_1 f6_1 z8_1
 go_cut [54] (fun p wx=>∃B:Bool,p= .bool B∧Hid (B=true↔(2<t∨(t≠1∧kind≠5∧kind≠6)))∧w1=wx)
 case first=>
  as_aux_lemma=>
   by_cases h3:2<t
   ·go_wp2_with fail
    go_meet
    case rel=>exact ⟨true,rfl,Hm ⟨fun _=> .inl h3,fun _=>rfl⟩,rfl⟩
   ·have h3' :t≤2:=by omega
    by_cases ht1:t=1
    ·subst ht1
     go_wp2_with fail
     go_meet
     case rel=>exact ⟨false,rfl,Hm ⟨fun h=>absurd h (by decide),fun h=>absurd h (by omega)⟩,rfl⟩
    ·have htn:(t !=1)=true:=by simpa using ht1
     by_cases hk:kind=5∨kind=6
     ·have HT:=Hm (fun w=>rtexty_yes kind w hk)
      go_wp2_with (first
       |(go_at_call 117;refine (HT.out _).mono ?_;rintro e w99 ⟨rfl,rfl⟩))
      go_meet
      case rel=>exact ⟨false,rfl,Hm ⟨fun h=>absurd h (by decide),fun h=>absurd h (by omega)⟩,rfl⟩
     ·have HT:=Hm (fun w=>rtexty_no kind w (by omega))
      go_wp2_with (first
       |(go_at_call 117;refine (HT.out _).mono ?_;rintro e w99 ⟨rfl,rfl⟩))
      go_meet
      case rel=>exact ⟨true,rfl,Hm ⟨fun _=> .inr (by omega),fun _=>rfl⟩,rfl⟩
 case rest=>
  obtain ⟨B,rfl,hB,rfl⟩:=hcut
  go_upto_if 54 with (fail)
  go_cut [] (fun wx=>Hid (RF wx g d T)∧Hid (Tch g w wx)∧Hid (Blk wx w.heap.size #[.int .u8 0, .int .u8 0, .int .i64 0, .int .u64 0, .int .u64 0, .string ByteArray.empty] 127)∧Hid (Blk wx (w.heap.size+1) #[.int .u8 2, .int .u8 kind, .int .i64 0, .int .u64 0, .int .u64 0, .string ByteArray.empty] 127))
  case first=>
   as_aux_lemma=>
    cases B with
    |true=>
     have hT:T=giveS S 7:=by
      rcases HC.out with ⟨_,h⟩|⟨h,_⟩
      ·exact h
      ·have:=hB.out.1 rfl;omega
     go_wp2_with (first
      |(go_at_call 30;refine (HF.out _ HR1.out).mono ?_;rintro e w2 ⟨rfl,hr2,ht2⟩;have h8:=HB8_1.out.tch ht2 (by omega);have h6:=HB6_1.out.tch ht2 (by omega);have HB8_2:=Hm h8;have HB6_2:=Hm h6;have k8_2:=h8.cell;have f8_2:=h8.frozen;have z8_2:=h8.lt;have k6_2:=h6.cell;have f6_2:=h6.frozen;have HR2:=Hm hr2;have HT2:Hid (Tch g w w2):=Hm (HT1.out.trans ht2);clear h8 h6 hr2 ht2))
     go_meet
     case rel=>exact ⟨by rw [hT];exact HR2,HT2,HB6_2,HB8_2⟩
    |false=>
     have hT:T=S:=by
      rcases HC.out with ⟨h,_⟩|⟨_,h⟩
      ·exact absurd (hB.out.2 h) (by decide)
      ·exact h
     go_wp2_with fail
     go_meet
     case rel=>exact ⟨by rw [hT];exact HR1,HT1,HB6_1,HB8_1⟩
  case rest=>
   clear HC HF HB HR1 HT1 HB6_1 HB8_1 H
   obtain ⟨HR1,HT1,HB6_1,HB8_1⟩:=hcut
   have hgc:=HR1.out.lt
   have k8_1:=HB8_1.out.cell
   have f8_1:=HB8_1.out.frozen
   have z8_1:=HB8_1.out.lt
   have k6_1:=HB6_1.out.cell
   have f6_1:=HB6_1.out.frozen
   have hX:=HX.out
   clear HX
   by_cases h0:t=0
   ·rw [if_pos h0] at hX
    subst hX
    subst h0
    simp only at H1 H2
    go_wp2_with fail
    refine bodyPost_ret (v:= .tuple #[(⟨1,V.zero⟩:K).aggR, .int .i64 (0:Nat)]) (res_rtk (Blk.six HB6_1.out) rfl rfl) rfl ?_
    exact RKPost.mk' (⟨1,V.zero⟩:K) 0 H2.out (fun he=>(H1.out he).symm) (RF.six HR1.out hg) (Tch.six HT1.out (Nat.le_refl _))
   rw [if_neg h0] at hX
   have h0' :(t==0)=false:=by simpa using h0
   by_cases h2:t=2
   ·rw [if_pos h2] at hX
    subst hX
    subst h2
    have HL:=Hm (fun w h=>rclr_any g d T w h)
    generalize largeR T=U at*
    obtain ⟨m,S2⟩:=U
    simp only at HL H2 H1
    go_upto_region 17 with (fail)
    go_region_law
     (first
      |(go_simp;(go_at_call 118;refine (HL.out _ (HR1.out.ext (by exact eX))).mono ?_;rintro e w2 ⟨rfl,hr2,ht2⟩;have h8:=(HB8_1.out.ext (by exact eX)).tch ht2 (by omega);have h6:=(HB6_1.out.ext (by exact eX)).tch ht2 (by omega);have HB8_2:=Hm h8;have HB6_2:=Hm h6;have k8_2:=h8.cell;have f8_2:=h8.frozen;have z8_2:=h8.lt;have k6_2:=h6.cell;have f6_2:=h6.frozen;have HR2:=Hm hr2;have HT2:Hid (Tch g w w2):=Hm ((HT1.out.trans (Tch.of_ext (by exact eX))).trans ht2);clear h8 h6 hr2 ht2)))
    all_goals
     go_wp2
     refine bodyPost_ret (v:= .tuple #[(fullT kind).aggR, .int .i64 (m:Nat)]) (res_rtk (Blk.six HB6_2.out) rfl rfl) rfl ?_
     exact RKPost.mk' (fullT kind) m H2.out (fun he=>(H1.out he).symm) (RF.six HR2.out hg) (Tch.six HT2.out (Nat.le_refl _))
   rw [if_neg h2] at hX
   have h2' :(t==2)=false:=by simpa using h2
   have hok:=HR1.out.ok
   have hlen:=HR1.out.len5
   by_cases hk:kind=5∨kind=6
   ·have hto:tailC kind T=textK kind (textR 64 T):=by unfold tailC;rw [if_pos hk]
    have HT:=Hm (fun w=>rtexty_yes kind w hk)
    have HTX:=Hm (fun w h=>ftext_any g d T 64 w h (by decide))
    have hsz:=textR_len (st:=T) 64 hlen
    rw [hto] at hX
    generalize textR 64 T=U at*
    obtain ⟨L,S2⟩:=U
    simp only at HTX hsz
    have hss:(strOfNums L).size≤1000000:=by rw [strOfNums_size];exact hsz
    generalize hstr:strOfNums L=str at*
    unfold textK at hX
    rw [hstr] at hX
    subst hX
    simp only at H2 H1
    have HVR:=Hm (fun w=>rright_any kind 0 0 0 str w (by omega))
    generalize rightV kind 0 ((0:Nat):Int) ((0:Nat):Int) str=R at*
    clear hto hok hlen hsz hstr hk
    by_cases hR:R=0
    ·subst hR
     have hf:failS S2 0=S2:=by unfold failS;rw [if_neg (by simp)]
     rw [hf] at H2
     clear hf
     go_wp2_with (first
      |(go_at_call 117;refine (HT.out _).mono ?_;rintro e w99 ⟨rfl,rfl⟩)
      |(go_at_call 120;refine (HTX.out _ HR1.out).mono ?_;rintro e w2 ⟨rfl,hr2,ht2⟩;have h8:=HB8_1.out.tch ht2 (by omega);have h6:=HB6_1.out.tch ht2 (by omega);have k8_2:=h8.cell;have f8_2:=h8.frozen;have z8_2:=h8.lt;have k6_2:=h6.cell;have f6_2:=h6.frozen;have HB8_2:=Hm (h8.set 5 (.string str));have HB6_2:Hid (Blk (w2.setCell ⟨w.heap.size+1,5,none⟩ (.string str)) w.heap.size #[.int .u8 0, .int .u8 0, .int .i64 0, .int .u64 0, .int .u64 0, .string ByteArray.empty] 127):=Hm (h6.other _ _ (by simp));have HR2:=Hm (hr2.set (b:=w.heap.size+1) (by omega) 5 (.string str));have HT2:=Hm ((HT1.out.trans ht2).setNew (h:=w.heap.size+1) (by omega) 5 (.string str));clear h8 h6 hr2 ht2)
      |(go_at_call 121;refine (HVR.out _).mono ?_;rintro e w3 ⟨rfl,hb3⟩;have hr3:=HR2.out.ext hb3;have ht3:=Tch.of_ext (g:=g) hb3;have h8:=HB8_2.out.tch ht3 (by omega);have h6:=HB6_2.out.tch ht3 (by omega);have HB8_3:=Hm h8;have HB6_3:=Hm h6;have k8_3:=h8.cell;have f8_3:=h8.frozen;have z8_3:=h8.lt;have k6_3:=h6.cell;have f6_3:=h6.frozen;have HR3:=Hm hr3;have HT3:Hid (Tch g w w3):=Hm (HT2.out.trans ht3);clear h8 h6 hr3 ht3))
     refine bodyPost_ret (v:= .tuple #[(⟨2,⟨kind,0,0,0,str⟩⟩:K).aggR, .int .i64 (0:Nat)]) (res_rtk (Blk.six HB6_3.out) rfl rfl) rfl ?_
     exact RKPost.mk' (⟨2,⟨kind,0,0,0,str⟩⟩:K) 0 H2.out (fun he=>(H1.out he).symm) (RF.six HR3.out hg) (Tch.six HT3.out (Nat.le_refl _))
    ·have hf:failS S2 R=giveS S2 R:=by unfold failS;rw [if_pos hR]
     rw [hf] at H2
     have HF:=Hm (fun w h=>fgive_any g d S2 R w h hR)
     generalize giveS S2 R=S3 at*
     have hR2:(R !=0)=true:=by simpa using hR
     clear hf hR
     go_wp2_with (first
      |(go_at_call 117;refine (HT.out _).mono ?_;rintro e w99 ⟨rfl,rfl⟩)
      |(go_at_call 120;refine (HTX.out _ HR1.out).mono ?_;rintro e w2 ⟨rfl,hr2,ht2⟩;have h8:=HB8_1.out.tch ht2 (by omega);have h6:=HB6_1.out.tch ht2 (by omega);have k8_2:=h8.cell;have f8_2:=h8.frozen;have z8_2:=h8.lt;have k6_2:=h6.cell;have f6_2:=h6.frozen;have HB8_2:=Hm (h8.set 5 (.string str));have HB6_2:Hid (Blk (w2.setCell ⟨w.heap.size+1,5,none⟩ (.string str)) w.heap.size #[.int .u8 0, .int .u8 0, .int .i64 0, .int .u64 0, .int .u64 0, .string ByteArray.empty] 127):=Hm (h6.other _ _ (by simp));have HR2:=Hm (hr2.set (b:=w.heap.size+1) (by omega) 5 (.string str));have HT2:=Hm ((HT1.out.trans ht2).setNew (h:=w.heap.size+1) (by omega) 5 (.string str));clear h8 h6 hr2 ht2)
      |(go_at_call 121;refine (HVR.out _).mono ?_;rintro e w3 ⟨rfl,hb3⟩;have hr3:=HR2.out.ext hb3;have ht3:=Tch.of_ext (g:=g) hb3;have h8:=HB8_2.out.tch ht3 (by omega);have h6:=HB6_2.out.tch ht3 (by omega);have HB8_3:=Hm h8;have HB6_3:=Hm h6;have k8_3:=h8.cell;have f8_3:=h8.frozen;have z8_3:=h8.lt;have k6_3:=h6.cell;have f6_3:=h6.frozen;have HR3:=Hm hr3;have HT3:Hid (Tch g w w3):=Hm (HT2.out.trans ht3);clear h8 h6 hr3 ht3)
      |(go_at_call 30;refine (HF.out _ HR3.out).mono ?_;rintro e w4 ⟨rfl,hr4,ht4⟩;have h8:=HB8_3.out.tch ht4 (by omega);have h6:=HB6_3.out.tch ht4 (by omega);have HB8_4:=Hm h8;have HB6_4:=Hm h6;have k8_4:=h8.cell;have f8_4:=h8.frozen;have z8_4:=h8.lt;have k6_4:=h6.cell;have f6_4:=h6.frozen;have HR4:=Hm hr4;have HT4:Hid (Tch g w w4):=Hm (HT3.out.trans ht4);clear h8 h6 hr4 ht4))
     refine bodyPost_ret (v:= .tuple #[(⟨2,⟨kind,0,0,0,str⟩⟩:K).aggR, .int .i64 (0:Nat)]) (res_rtk (Blk.six HB6_4.out) rfl rfl) rfl ?_
     exact RKPost.mk' (⟨2,⟨kind,0,0,0,str⟩⟩:K) 0 H2.out (fun he=>(H1.out he).symm) (RF.six HR4.out hg) (Tch.six HT4.out (Nat.le_refl _))
   ·have hto:tailC kind T=((⟨2,(takeV kind 1 T).1⟩,0),(takeV kind 1 T).2):=by unfold tailC;rw [if_neg hk]
    have HT:=Hm (fun w=>rtexty_no kind w (by omega))
    have HV:=Hm (fun w h=>rtake_any g d T kind 1 w h (by omega) (by omega))
    rw [hto] at hX
    generalize takeV kind 1 T=U at*
    obtain ⟨⟨ty,n,x,y,s⟩,S2⟩:=U
    subst hX
    simp only at HV H2 H1
    clear hto hok hlen hk
    go_wp2_with (first
     |(go_at_call 117;refine (HT.out _).mono ?_;rintro e w99 ⟨rfl,rfl⟩)
     |(go_at_call 119;refine (HV.out _ HR1.out).mono ?_;rintro e w2 ⟨rfl,hr2,ht2⟩;have h8:=HB8_1.out.tch ht2 (by omega);have h6:=HB6_1.out.tch ht2 (by omega);have HB8_2:=Hm h8;have HB6_2:=Hm h6;have k8_2:=h8.cell;have f8_2:=h8.frozen;have z8_2:=h8.lt;have k6_2:=h6.cell;have f6_2:=h6.frozen;have HR2:=Hm hr2;have HT2:Hid (Tch g w w2):=Hm (HT1.out.trans ht2);clear h8 h6 hr2 ht2))
    refine bodyPost_ret (v:= .tuple #[(⟨2,⟨ty,n,x,y,s⟩⟩:K).aggR, .int .i64 (0:Nat)]) (res_rtk (Blk.six (HB6_2.out.past5 (by omega))) rfl rfl) rfl ?_
    exact RKPost.mk' ⟨2,⟨ty,n,x,y,s⟩⟩ 0 H2.out (fun he=>(H1.out he).symm) (RF.six (HR2.out.past5 (by omega)) hg) (Tch.six (HT2.out.past5 (by omega)) (Nat.le_refl _))
theorem rtk_first (g d:Nat) (st:RS) (kind:Int) (w:World) (h:RF w g d st) (hk1:1≤kind) (hk6:kind≤6):
 Calls Tryz.prog 87 #[.pointer (some ⟨g,0,none⟩), .int .u8 kind, .int .u8 1] w (RKPost g d w (firstC kind st)):=by
 have hok:=h.ok
 obtain ⟨t,S,hb⟩:∃t S,byteR st=(t,S):=⟨_,_,rfl⟩
 have hSok:S.ok:=by have:=byteR_ok hok;rw [hb] at this;exact this
 by_cases he:S.e=0
 ·by_cases hbad:2<t∨(t≠1∧kind≠5∧kind≠6)
  ·obtain ⟨e,he2,hg⟩:=giveS_nil (x:=7) (by decide) hSok
   have hF:firstC kind st=((K.zero,0),giveS S 7):=by unfold firstC;rw [hb];simp only;rw [if_neg (by simpa using he),if_pos hbad]
   refine rtk_one g d st kind w h hk1 hk6 t S (giveS S 7) hb he (.inl ⟨hbad,rfl⟩) _ rfl ?_ ?_
   ·rw [hF,hg]
    split
    ·rfl
    ·split
     ·exact (largeR_gave he2).symm
     ·exact (tailC_gave he2).symm
   ·intro h0;rw [hF,hg] at h0;exact absurd h0 he2
  ·have hF:firstC kind st=if t=0 then ((⟨1,V.zero⟩,0),S) else if t=2 then ((fullT kind,(largeR S).1),(largeR S).2) else tailC kind S:=by
    unfold firstC tailC;rw [hb];simp only;rw [if_neg (by simpa using he),if_neg hbad]
   exact rtk_one g d st kind w h hk1 hk6 t S S hb he (.inr ⟨by omega,rfl⟩) _ rfl (by rw [hF]) (fun _=>by rw [hF])
 ·exact rtk_one_lacks g d st kind w h hk1 hk6 t S hb he
theorem rtk_two_val (g d:Nat) (st:RS) (kind:Int) (w:World) (h:RF w g d st) (hk1:1≤kind) (hk6:kind≤6) (hk:kind≠5∧kind≠6):
 Calls Tryz.prog 87 #[.pointer (some ⟨g,0,none⟩), .int .u8 kind, .int .u8 2] w (RKPost g d w ((⟨2,(takeV kind 2 st).1⟩,0),(takeV kind 2 st).2)):=by
 have H:=Hm h
 have hg:=h.lt
 have HT:=Hm (fun w=>rtexty_no kind w hk)
 have HV:=Hm (fun w h=>rtake_any g d st kind 2 w h (by omega) (by omega))
 generalize takeV kind 2 st=U at*
 obtain ⟨⟨ty,n,x,y,s⟩,S2⟩:=U
 simp only at HV
 clear h hk
 go_enter Tryz.func87,Tryz.ntmps87
 go_wp2_with (first
  |(go_at_call 117;refine (HT.out _).mono ?_;rintro e w99 ⟨rfl,rfl⟩)
  |(go_at_call 119;refine (HV.out _ (H.out.ext (by exact eX))).mono ?_;rintro e w2 ⟨rfl,hr2,ht2⟩;have h8:=(Blk.new' (w:=w.alloc (.cells #[.int .u8 0, .int .u8 0, .int .i64 0, .int .u64 0, .int .u64 0, .string ByteArray.empty] 127)) (b:=w.heap.size+1) #[.int .u8 2, .int .u8 kind, .int .i64 0, .int .u64 0, .int .u64 0, .string ByteArray.empty] 127 (by simp)).tch ht2 (by omega);have h6:=((Blk.new w #[.int .u8 0, .int .u8 0, .int .i64 0, .int .u64 0, .int .u64 0, .string ByteArray.empty] 127).alloc (.cells #[.int .u8 2, .int .u8 kind, .int .i64 0, .int .u64 0, .int .u64 0, .string ByteArray.empty] 127)).tch ht2 (by omega);have HB8_2:=Hm h8;have HB6_2:=Hm h6;have k8_2:=h8.cell;have f8_2:=h8.frozen;have z8_2:=h8.lt;have k6_2:=h6.cell;have f6_2:=h6.frozen;have HR2:=Hm hr2;have HT2:Hid (Tch g w w2):=Hm ((((Tch.refl g w).alloc _).alloc _).trans ht2);clear h8 h6 hr2 ht2))
 refine bodyPost_ret (v:= .tuple #[(⟨2,⟨ty,n,x,y,s⟩⟩:K).aggR, .int .i64 (0:Nat)]) (res_rtk (Blk.six (HB6_2.out.past5 (by omega))) rfl rfl) rfl ?_
 exact RKPost.mk' ⟨2,⟨ty,n,x,y,s⟩⟩ 0 rfl (fun _=>rfl) (RF.six (HR2.out.past5 (by omega)) hg) (Tch.six (HT2.out.past5 (by omega)) (Nat.le_refl _))
theorem rtk_two_text (g d:Nat) (st:RS) (kind:Int) (w:World) (h:RF w g d st) (hk:kind=5∨kind=6):
 Calls Tryz.prog 87 #[.pointer (some ⟨g,0,none⟩), .int .u8 kind, .int .u8 2] w (RKPost g d w (secondC kind st)):=by
 have H:=Hm h
 have hg:=h.lt
 have hlen:=h.len5
 have HT:=Hm (fun w=>rtexty_yes kind w hk)
 have hk1:1≤kind:=by omega
 have hk6:kind≤6:=by omega
 have HU:=Hm (fun w h=>fuint_any g d st 66 w h (by omega))
 have hn66:=uintR_le (st:=st) 66
 obtain ⟨n,S,hb⟩:∃n S,uintR 66 st=(n,S):=⟨_,_,rfl⟩
 have HSL:Hid (S.l.length≤1000000):=by
  have:=congrArg (fun z=>z.2.l.length) hb
  simp only at this
  rw [←this]
  unfold uintR giveS
  simp only
  refine Hm ?_
  (repeat' split)<;>simp<;>omega
 rw [hb] at HU hn66
 simp only at hn66
 clear h hk hlen
 by_cases he:S.e=0
 case neg=>
  have HO:Hid (secondC kind st=((K.zero,0),S)):=Hm (by unfold secondC;rw [hb];exact if_pos he)
  have he2:(S.e !=0)=true:=by simpa using he
  clear hb he
  go_enter Tryz.func87,Tryz.ntmps87
  go_wp2_with (first
   |(go_at_call 117;refine (HT.out _).mono ?_;rintro e w99 ⟨rfl,rfl⟩)
   |(go_at_call 27;refine (HU.out _ (H.out.ext (by exact eX))).mono ?_;rintro e w1 ⟨rfl,hr1,ht1⟩;have h8:=(Blk.new' (w:=w.alloc (.cells #[.int .u8 0, .int .u8 0, .int .i64 0, .int .u64 0, .int .u64 0, .string ByteArray.empty] 127)) (b:=w.heap.size+1) #[.int .u8 2, .int .u8 kind, .int .i64 0, .int .u64 0, .int .u64 0, .string ByteArray.empty] 127 (by simp)).tch ht1 (by omega);have h6:=((Blk.new w #[.int .u8 0, .int .u8 0, .int .i64 0, .int .u64 0, .int .u64 0, .string ByteArray.empty] 127).alloc (.cells #[.int .u8 2, .int .u8 kind, .int .i64 0, .int .u64 0, .int .u64 0, .string ByteArray.empty] 127)).tch ht1 (by omega);have HB8_1:=Hm h8;have HB6_1:=Hm h6;have k8_1:=h8.cell;have f8_1:=h8.frozen;have z8_1:=h8.lt;have k6_1:=h6.cell;have f6_1:=h6.frozen;have bd1:=hr1.bad;have HR1:=Hm hr1;have HT1:Hid (Tch g w w1):=Hm ((((Tch.refl g w).alloc _).alloc _).trans ht1);clear h8 h6 hr1 ht1))
  refine bodyPost_ret (v:= .tuple #[K.zero.aggR, .int .i64 (0:Nat)]) (res_rtk (Blk.six HB6_1.out) rfl rfl) rfl ?_
  exact RKPost.mk' K.zero 0 (by rw [HO.out]) (fun _=>by rw [HO.out]) (RF.six HR1.out hg) (Tch.six HT1.out (Nat.le_refl _))
 have HE:=Hm he
 have hF:secondC kind st=if n=0 then ((⟨1,V.zero⟩,0),S) else if n=1 then ((fullT kind,(largeR S).1),(largeR S).2) else textK kind (bytesR (n - 2) S):=by
  unfold secondC;rw [hb];simp only;rw [if_neg (by simpa using he)]
 clear hb he
 by_cases h0:n=0
 ·have HO:Hid (secondC kind st=((⟨1,V.zero⟩,0),S)):=Hm (by rw [hF,if_pos h0])
  subst h0
  clear hF
  go_enter Tryz.func87,Tryz.ntmps87
  go_wp2_with (first
   |(go_at_call 117;refine (HT.out _).mono ?_;rintro e w99 ⟨rfl,rfl⟩)
   |(go_at_call 27;refine (HU.out _ (H.out.ext (by exact eX))).mono ?_;rintro e w1 ⟨rfl,hr1,ht1⟩;have h8:=(Blk.new' (w:=w.alloc (.cells #[.int .u8 0, .int .u8 0, .int .i64 0, .int .u64 0, .int .u64 0, .string ByteArray.empty] 127)) (b:=w.heap.size+1) #[.int .u8 2, .int .u8 kind, .int .i64 0, .int .u64 0, .int .u64 0, .string ByteArray.empty] 127 (by simp)).tch ht1 (by omega);have h6:=((Blk.new w #[.int .u8 0, .int .u8 0, .int .i64 0, .int .u64 0, .int .u64 0, .string ByteArray.empty] 127).alloc (.cells #[.int .u8 2, .int .u8 kind, .int .i64 0, .int .u64 0, .int .u64 0, .string ByteArray.empty] 127)).tch ht1 (by omega);have HB8_1:=Hm h8;have HB6_1:=Hm h6;have k8_1:=h8.cell;have f8_1:=h8.frozen;have z8_1:=h8.lt;have k6_1:=h6.cell;have f6_1:=h6.frozen;have bd1:=hr1.bad;rw [HE.out] at bd1;have HR1:=Hm hr1;have HT1:Hid (Tch g w w1):=Hm ((((Tch.refl g w).alloc _).alloc _).trans ht1);clear h8 h6 hr1 ht1))
  refine bodyPost_ret (v:= .tuple #[(⟨1,V.zero⟩:K).aggR, .int .i64 (0:Nat)]) (res_rtk (Blk.six HB6_1.out) rfl rfl) rfl ?_
  exact RKPost.mk' (⟨1,V.zero⟩:K) 0 (by rw [HO.out]) (fun _=>by rw [HO.out]) (RF.six HR1.out hg) (Tch.six HT1.out (Nat.le_refl _))
 rw [if_neg h0] at hF
 by_cases h1:n=1
 ·have HO:Hid (secondC kind st=((fullT kind,(largeR S).1),(largeR S).2)):=Hm (by rw [hF,if_pos h1])
  subst h1
  clear hF
  have HL:=Hm (fun w h=>rclr_any g d S w h)
  generalize largeR S=U at*
  obtain ⟨m,S2⟩:=U
  simp only at HL HO
  go_enter Tryz.func87,Tryz.ntmps87
  go_upto_region 35 with (first
   |(go_at_call 117;refine (HT.out _).mono ?_;rintro e w99 ⟨rfl,rfl⟩)
   |(go_at_call 27;refine (HU.out _ (H.out.ext (by exact eX))).mono ?_;rintro e w1 ⟨rfl,hr1,ht1⟩;have h8:=(Blk.new' (w:=w.alloc (.cells #[.int .u8 0, .int .u8 0, .int .i64 0, .int .u64 0, .int .u64 0, .string ByteArray.empty] 127)) (b:=w.heap.size+1) #[.int .u8 2, .int .u8 kind, .int .i64 0, .int .u64 0, .int .u64 0, .string ByteArray.empty] 127 (by simp)).tch ht1 (by omega);have h6:=((Blk.new w #[.int .u8 0, .int .u8 0, .int .i64 0, .int .u64 0, .int .u64 0, .string ByteArray.empty] 127).alloc (.cells #[.int .u8 2, .int .u8 kind, .int .i64 0, .int .u64 0, .int .u64 0, .string ByteArray.empty] 127)).tch ht1 (by omega);have HB8_1:=Hm h8;have HB6_1:=Hm h6;have k8_1:=h8.cell;have f8_1:=h8.frozen;have z8_1:=h8.lt;have k6_1:=h6.cell;have f6_1:=h6.frozen;have bd1:=hr1.bad;rw [HE.out] at bd1;have HR1:=Hm hr1;have HT1:Hid (Tch g w w1):=Hm ((((Tch.refl g w).alloc _).alloc _).trans ht1);clear h8 h6 hr1 ht1))
  go_region_law
   (first
    |(go_simp;(go_at_call 118;refine (HL.out _ (HR1.out.ext (by exact eX))).mono ?_;rintro e w2 ⟨rfl,hr2,ht2⟩;have h8:=(HB8_1.out.ext (by exact eX)).tch ht2 (by omega);have h6:=(HB6_1.out.ext (by exact eX)).tch ht2 (by omega);have HB8_2:=Hm h8;have HB6_2:=Hm h6;have k8_2:=h8.cell;have f8_2:=h8.frozen;have z8_2:=h8.lt;have k6_2:=h6.cell;have f6_2:=h6.frozen;have HR2:=Hm hr2;have HT2:Hid (Tch g w w2):=Hm ((HT1.out.trans (Tch.of_ext (by exact eX))).trans ht2);clear h8 h6 hr2 ht2)))
  all_goals
   go_wp2
   refine bodyPost_ret (v:= .tuple #[(fullT kind).aggR, .int .i64 (m:Nat)]) (res_rtk (Blk.six HB6_2.out) rfl rfl) rfl ?_
   exact RKPost.mk' (fullT kind) m (by rw [HO.out]) (fun _=>by rw [HO.out]) (RF.six HR2.out hg) (Tch.six HT2.out (Nat.le_refl _))
 rw [if_neg h1] at hF
 have HBy:=Hm (fun w h=>fbytes_any g d S (n - 2) w h (by omega))
 have hc:((n - 2:Nat):Int)=(n:Int) - 2:=by omega
 rw [hc] at HBy
 have hw:IntKind.u64.wrap ((n:Int) - 2)=(n:Int) - 2:=by rw [u64_wrap];omega
 have hsz:(bytesR (n - 2) S).1.length≤1000000:=by have:=HSL.out;unfold bytesR;split<;>first|(simp;done)|(simp;omega)
 have hn0:((n:Int)==0)=false:=by simpa using h0
 have hn1:((n:Int)==1)=false:=by simp;omega
 generalize bytesR (n - 2) S=U at*
 obtain ⟨L,S2⟩:=U
 simp only at HBy hsz
 have hss:(strOfNums L).size≤1000000:=by rw [strOfNums_size];exact hsz
 generalize hstr:strOfNums L=str at*
 unfold textK at hF
 rw [hstr] at hF
 simp only at hF
 have HVR:=Hm (fun w=>rright_any kind 0 0 0 str w (by omega))
 generalize rightV kind 0 ((0:Nat):Int) ((0:Nat):Int) str=R at*
 clear hsz hstr hc h0 h1 HSL
 by_cases hR:R=0
 ·subst hR
  have hf:failS S2 0=S2:=by unfold failS;rw [if_neg (by simp)]
  rw [hf] at hF
  have HO:=Hm hF
  clear hf hF
  go_enter Tryz.func87,Tryz.ntmps87
  go_wp2_with (first
   |(go_at_call 117;refine (HT.out _).mono ?_;rintro e w99 ⟨rfl,rfl⟩)
   |(go_at_call 27;refine (HU.out _ (H.out.ext (by exact eX))).mono ?_;rintro e w1 ⟨rfl,hr1,ht1⟩;have h8:=(Blk.new' (w:=w.alloc (.cells #[.int .u8 0, .int .u8 0, .int .i64 0, .int .u64 0, .int .u64 0, .string ByteArray.empty] 127)) (b:=w.heap.size+1) #[.int .u8 2, .int .u8 kind, .int .i64 0, .int .u64 0, .int .u64 0, .string ByteArray.empty] 127 (by simp)).tch ht1 (by omega);have h6:=((Blk.new w #[.int .u8 0, .int .u8 0, .int .i64 0, .int .u64 0, .int .u64 0, .string ByteArray.empty] 127).alloc (.cells #[.int .u8 2, .int .u8 kind, .int .i64 0, .int .u64 0, .int .u64 0, .string ByteArray.empty] 127)).tch ht1 (by omega);have HB8_1:=Hm h8;have HB6_1:=Hm h6;have k8_1:=h8.cell;have f8_1:=h8.frozen;have z8_1:=h8.lt;have k6_1:=h6.cell;have f6_1:=h6.frozen;have bd1:=hr1.bad;rw [HE.out] at bd1;have HR1:=Hm hr1;have HT1:Hid (Tch g w w1):=Hm ((((Tch.refl g w).alloc _).alloc _).trans ht1);clear h8 h6 hr1 ht1)
   |(go_at_call 55;refine (HBy.out _ HR1.out).mono ?_;rintro e w2 ⟨rfl,hr2,ht2⟩;have h8:=HB8_1.out.tch ht2 (by omega);have h6:=HB6_1.out.tch ht2 (by omega);have k8_2:=h8.cell;have f8_2:=h8.frozen;have z8_2:=h8.lt;have k6_2:=h6.cell;have f6_2:=h6.frozen;have HB8_2:=Hm (h8.set 5 (.string str));have HB6_2:Hid (Blk (w2.setCell ⟨w.heap.size+1,5,none⟩ (.string str)) w.heap.size #[.int .u8 0, .int .u8 0, .int .i64 0, .int .u64 0, .int .u64 0, .string ByteArray.empty] 127):=Hm (h6.other _ _ (by simp));have HR2:=Hm (hr2.set (b:=w.heap.size+1) (by omega) 5 (.string str));have HT2:=Hm ((HT1.out.trans ht2).setNew (h:=w.heap.size+1) (by omega) 5 (.string str));clear h8 h6 hr2 ht2)
   |(go_at_call 121;refine (HVR.out _).mono ?_;rintro e w4 ⟨rfl,hb4⟩;have hr4:=HR2.out.ext hb4;have ht4:=Tch.of_ext (g:=g) hb4;have h8:=HB8_2.out.tch ht4 (by omega);have h6:=HB6_2.out.tch ht4 (by omega);have HB8_4:=Hm h8;have HB6_4:=Hm h6;have k8_4:=h8.cell;have f8_4:=h8.frozen;have z8_4:=h8.lt;have k6_4:=h6.cell;have f6_4:=h6.frozen;have HR4:=Hm hr4;have HT4:Hid (Tch g w w4):=Hm (HT2.out.trans ht4);clear h8 h6 hr4 ht4))
  refine bodyPost_ret (v:= .tuple #[(⟨2,⟨kind,0,0,0,str⟩⟩:K).aggR, .int .i64 (0:Nat)]) (res_rtk (Blk.six HB6_4.out) rfl rfl) rfl ?_
  exact RKPost.mk' (⟨2,⟨kind,0,0,0,str⟩⟩:K) 0 (by rw [HO.out]) (fun _=>by rw [HO.out]) (RF.six HR4.out hg) (Tch.six HT4.out (Nat.le_refl _))
 ·have hf:failS S2 R=giveS S2 R:=by unfold failS;rw [if_pos hR]
  rw [hf] at hF
  have HO:=Hm hF
  have HF:=Hm (fun w h=>fgive_any g d S2 R w h hR)
  generalize giveS S2 R=S3 at*
  have hR2:(R !=0)=true:=by simpa using hR
  clear hf hR hF
  go_enter Tryz.func87,Tryz.ntmps87
  go_wp2_with (first
   |(go_at_call 117;refine (HT.out _).mono ?_;rintro e w99 ⟨rfl,rfl⟩)
   |(go_at_call 27;refine (HU.out _ (H.out.ext (by exact eX))).mono ?_;rintro e w1 ⟨rfl,hr1,ht1⟩;have h8:=(Blk.new' (w:=w.alloc (.cells #[.int .u8 0, .int .u8 0, .int .i64 0, .int .u64 0, .int .u64 0, .string ByteArray.empty] 127)) (b:=w.heap.size+1) #[.int .u8 2, .int .u8 kind, .int .i64 0, .int .u64 0, .int .u64 0, .string ByteArray.empty] 127 (by simp)).tch ht1 (by omega);have h6:=((Blk.new w #[.int .u8 0, .int .u8 0, .int .i64 0, .int .u64 0, .int .u64 0, .string ByteArray.empty] 127).alloc (.cells #[.int .u8 2, .int .u8 kind, .int .i64 0, .int .u64 0, .int .u64 0, .string ByteArray.empty] 127)).tch ht1 (by omega);have HB8_1:=Hm h8;have HB6_1:=Hm h6;have k8_1:=h8.cell;have f8_1:=h8.frozen;have z8_1:=h8.lt;have k6_1:=h6.cell;have f6_1:=h6.frozen;have bd1:=hr1.bad;rw [HE.out] at bd1;have HR1:=Hm hr1;have HT1:Hid (Tch g w w1):=Hm ((((Tch.refl g w).alloc _).alloc _).trans ht1);clear h8 h6 hr1 ht1)
   |(go_at_call 55;refine (HBy.out _ HR1.out).mono ?_;rintro e w2 ⟨rfl,hr2,ht2⟩;have h8:=HB8_1.out.tch ht2 (by omega);have h6:=HB6_1.out.tch ht2 (by omega);have k8_2:=h8.cell;have f8_2:=h8.frozen;have z8_2:=h8.lt;have k6_2:=h6.cell;have f6_2:=h6.frozen;have HB8_2:=Hm (h8.set 5 (.string str));have HB6_2:Hid (Blk (w2.setCell ⟨w.heap.size+1,5,none⟩ (.string str)) w.heap.size #[.int .u8 0, .int .u8 0, .int .i64 0, .int .u64 0, .int .u64 0, .string ByteArray.empty] 127):=Hm (h6.other _ _ (by simp));have HR2:=Hm (hr2.set (b:=w.heap.size+1) (by omega) 5 (.string str));have HT2:=Hm ((HT1.out.trans ht2).setNew (h:=w.heap.size+1) (by omega) 5 (.string str));clear h8 h6 hr2 ht2)
   |(go_at_call 121;refine (HVR.out _).mono ?_;rintro e w4 ⟨rfl,hb4⟩;have hr4:=HR2.out.ext hb4;have ht4:=Tch.of_ext (g:=g) hb4;have h8:=HB8_2.out.tch ht4 (by omega);have h6:=HB6_2.out.tch ht4 (by omega);have HB8_4:=Hm h8;have HB6_4:=Hm h6;have k8_4:=h8.cell;have f8_4:=h8.frozen;have z8_4:=h8.lt;have k6_4:=h6.cell;have f6_4:=h6.frozen;have HR4:=Hm hr4;have HT4:Hid (Tch g w w4):=Hm (HT2.out.trans ht4);clear h8 h6 hr4 ht4)
   |(go_at_call 30;refine (HF.out _ HR4.out).mono ?_;rintro e w5 ⟨rfl,hr5,ht5⟩;have h8:=HB8_4.out.tch ht5 (by omega);have h6:=HB6_4.out.tch ht5 (by omega);have HB8_5:=Hm h8;have HB6_5:=Hm h6;have k8_5:=h8.cell;have f8_5:=h8.frozen;have z8_5:=h8.lt;have k6_5:=h6.cell;have f6_5:=h6.frozen;have HR5:=Hm hr5;have HT5:Hid (Tch g w w5):=Hm (HT4.out.trans ht5);clear h8 h6 hr5 ht5))
  refine bodyPost_ret (v:= .tuple #[(⟨2,⟨kind,0,0,0,str⟩⟩:K).aggR, .int .i64 (0:Nat)]) (res_rtk (Blk.six HB6_5.out) rfl rfl) rfl ?_
  exact RKPost.mk' (⟨2,⟨kind,0,0,0,str⟩⟩:K) 0 (by rw [HO.out]) (fun _=>by rw [HO.out]) (RF.six HR5.out hg) (Tch.six HT5.out (Nat.le_refl _))
theorem rtk_any (g d:Nat) (st:RS) (kind ver:Int) (w:World) (h:RF w g d st):
 Calls Tryz.prog 87 #[.pointer (some ⟨g,0,none⟩), .int .u8 kind, .int .u8 ver] w (RKPost g d w (preC kind ver st)):=by
 by_cases hv:ver=1∨ver=2
 ·by_cases hk:kind<1∨6<kind
  ·exact rtk_kind g d st kind ver w h hv hk
  ·unfold preC
   rw [if_neg (fun h=>h hv),if_neg hk]
   by_cases h1:ver=1
   ·subst h1
    rw [if_pos rfl]
    exact rtk_first g d st kind w h (by omega) (by omega)
   ·obtain rfl:ver=2:=by omega
    rw [if_neg h1]
    by_cases h5:kind=5∨kind=6
    ·rw [if_pos h5]
     exact rtk_two_text g d st kind w h h5
    ·rw [if_neg h5]
     exact rtk_two_val g d st kind w h (by omega) (by omega) (by omega)
 ·exact rtk_ver g d st kind ver w h hv
theorem res_rctake {W:World} {b:Nat} {k ty n x y:Int} {s:ByteArray} {m:Int} {tm:Array Value} (h:Blk W b #[.int .u8 k, .int .u8 ty, .int .i64 n, .int .u64 x, .int .u64 y, .string s] 127) (ht:tm.getD 6 undef= .pointer (some ⟨b,0,none⟩)) (hm:tm.getD 7 undef= .int .i64 m):
 (results Tryz.f60 tm).run Tryz.prog W= .ok (.tuple #[.agg #[.int .u8 k, .int .u8 ty, .int .i64 n, .int .u64 x, .int .u64 y, .string s], .int .i64 m]) W:=by
 have c:=h.cell
 have c0:=c 0
 have c1:=c 1
 have c2:=c 2
 have c3:=c 3
 have c4:=c 4
 have c5:=c 5
 clear c h
 simp at c0 c1 c2 c3 c4 c5
 rw [Array.getD_eq_getD_getElem?] at ht hm
 simp [results,Tryz.results60,go_sem,ht,hm,c0,c1,c2,c3,c4,c5]
theorem rtake_end {r:(K×Nat)×RS} (h:r.2.e≠0):finC r=((K.zero,0),r.2):=by unfold finC;rw [if_pos h]
theorem rctake_any (g d:Nat) (st:RS) (kind ver:Int) (w:World) (h:RF w g d st):
 Calls Tryz.prog 60 #[.pointer (some ⟨g,0,none⟩), .int .u8 kind, .int .u8 ver] w fun e w' =>
  e= .returned (.tuple #[(takeC kind ver st).1.1.aggR, .int .i64 (takeC kind ver st).1.2])∧RF w' g d (takeC kind ver st).2∧Tch g w w' :=by
 have H:=Hm h
 have hg:=h.lt
 have HK:=Hm (fun w h=>rtk_any g d st kind ver w h)
 clear h
 unfold takeC
 generalize preC kind ver st=R at*
 by_cases he:R.2.e=0
 ·have HFI:=Hm (finC_ok he)
  have HE:=Hm he
  clear he
  go_enter Tryz.func60,Tryz.ntmps60
  go_wp2_with (go_at_call 87;refine (HK.out _ (H.out.ext (by exact eX))).mono ?_;rintro e w1 ⟨⟨ck,cty,cn,cx,cy,cs⟩,m,rfl,hc1,hr1,ht1⟩;simp only [K.aggR];have HC1:=Hm hc1;have h6:=(Blk.new w #[.int .u8 0, .int .u8 0, .int .i64 0, .int .u64 0, .int .u64 0, .string ByteArray.empty] 127).tch ht1 (by omega);have HB6:=Hm h6;have k6:=h6.cell;have f6:=h6.frozen;have z6:=h6.lt;have HR1:=Hm hr1;have bd1:=hr1.bad;have hg1:=hr1.lt;have HT1:Hid (Tch g w w1):=Hm (((Tch.refl g w).alloc _).trans ht1);clear h6 hr1 ht1 hc1;rw [HE.out] at bd1)
  refine bodyPost_ret (v:= .tuple #[(⟨ck,⟨cty,cn,cx,cy,cs⟩⟩:K).aggR, .int .i64 m]) (res_rctake ((Blk.six HB6.out).alloc _) rfl rfl) rfl ⟨?_,by rw [HFI.out];exact (RF.six HR1.out hg).ext ((Ext.refl _).alloc _),(Tch.six HT1.out (Nat.le_refl _)).alloc _⟩
  rw [HFI.out,←HC1.out HE.out]
 ·have HFI:=Hm (rtake_end he)
  have he2:(R.2.e !=0)=true:=by simpa using he
  clear he
  go_enter Tryz.func60,Tryz.ntmps60
  go_wp2_with (go_at_call 87;refine (HK.out _ (H.out.ext (by exact eX))).mono ?_;rintro e w1 ⟨⟨ck,cty,cn,cx,cy,cs⟩,m,rfl,hc1,hr1,ht1⟩;simp only [K.aggR];have HC1:=Hm hc1;have h6:=(Blk.new w #[.int .u8 0, .int .u8 0, .int .i64 0, .int .u64 0, .int .u64 0, .string ByteArray.empty] 127).tch ht1 (by omega);have HB6:=Hm h6;have k6:=h6.cell;have f6:=h6.frozen;have z6:=h6.lt;have HR1:=Hm hr1;have bd1:=hr1.bad;have hg1:=hr1.lt;have HT1:Hid (Tch g w w1):=Hm (((Tch.refl g w).alloc _).trans ht1);clear h6 hr1 ht1 hc1)
  refine bodyPost_ret (v:= .tuple #[K.zero.aggR, .int .i64 (0:Nat)]) (res_rctake ((Blk.six HB6.out).alloc _) rfl rfl) rfl ⟨by rw [HFI.out],by rw [HFI.out];exact (RF.six HR1.out hg).ext ((Ext.refl _).alloc _),(Tch.six HT1.out (Nat.le_refl _)).alloc _⟩
end Go.Proofs.YtodbhliidbclcaaGreat
