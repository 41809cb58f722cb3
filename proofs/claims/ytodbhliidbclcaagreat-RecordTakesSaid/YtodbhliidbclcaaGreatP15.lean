/-
Rows beside a reader; a map of bits taken: the program's mapped.
-/
import Derived.Deep.CutBlock
import Derived.Deep.RegionLaw
import Derived.Test.YtodbhliidbclcaaGreatP14
set_option maxRecDepth 100000
set_option maxHeartbeats 16000000
namespace Go.Proofs.YtodbhliidbclcaaGreat
open Go.RowKit
theorem owns_tch {w w1:World} {g base:Nat} {e:TypeId} {size n:Nat} {v:Value} {xs:List Value} (h:w.ownsRow base e size v n xs) (ht:Tch g w w1) (hg:g<base):w1.ownsRow base e size v n xs:=by
 obtain ⟨h1,h2⟩:=h
 refine ⟨h1, ?_⟩
 rcases h2 with h2|⟨k,cap,cur,hv,hb,hh,hr⟩
 ·exact .inl h2
 ·exact .inr ⟨k,cap,cur,hv,hb,Blk.tch (b:=k) hh ht (by omega),hr⟩
theorem OB.tch {w w1:World} {g base:Nat} {v:Value} {l:List Int} (h:OB w base v l) (ht:Tch g w w1) (hg:g<base):OB w1 base v l:=owns_tch h ht hg
theorem Tch.grown {g:Nat} {w w1 w2:World} {row:Option Nat} (h:Tch g w w1) (hg:w1.grownBy w2 row) (hr:∀j,row=some j→w.heap.size≤j):Tch g w w2:=
 ⟨hg.os.trans h.os,hg.tape.trans h.tape,hg.output.trans h.output,Nat.le_trans h.size hg.size,fun k hk hne=>(hg.block k (Nat.lt_of_lt_of_le hk h.size) (fun e=>by have:=hr k e.symm;omega)).trans (h.block k hk hne)⟩
theorem RD.grown {w1 w2:World} {g d:Nat} {st:RS} {row:Option Nat} (h:RD w1 g d st) (hg:w1.grownBy w2 row) (hr:∀j,row=some j→g<j):RD w2 g d st:=by
 cases row with
 |none=>exact h.ext ⟨hg.os,hg.tape,hg.output,hg.size,fun k hk=>hg.block k hk (by simp)⟩
 |some j=>
  have:=hr j rfl
  exact h.tch (h:=j) ⟨hg.os,hg.tape,hg.output,hg.size,fun k hk hne=>hg.block k hk (by simpa using hne)⟩ (by omega) (.inr (by omega))
theorem RF.grown {w1 w2:World} {g d:Nat} {st:RS} {row:Option Nat} (h:RF w1 g d st) (hg:w1.grownBy w2 row) (hr:∀j,row=some j→g<j):RF w2 g d st:=by
 cases row with
 |none=>exact h.ext ⟨hg.os,hg.tape,hg.output,hg.size,fun k hk=>hg.block k hk (by simp)⟩
 |some j=>
  have:=hr j rfl
  exact h.tch (h:=j) ⟨hg.os,hg.tape,hg.output,hg.size,fun k hk hne=>hg.block k hk (by simpa using hne)⟩ (by omega) (.inr (by omega))
theorem Sl.tch {w w1:World} {g k:Nat} {a:Option Addr} {n cap:Nat} {xss:List (List Value)} (h:Sl w (.slice a n cap) k xss) (ht:Tch g w w1) (hg:∀b o,a=some ⟨b,o,none⟩→b≠g):Sl w1 (.slice a n cap) k xss:=by
 obtain ⟨a',c',hv,h⟩:=h
 simp only [Value.slice.injEq] at hv
 obtain ⟨rfl,hn,rfl⟩:=hv
 refine ⟨a,cap,by rw [hn], ?_⟩
 rcases h with h|⟨b,o,rfl,hb,hc⟩
 ·exact .inl h
 ·exact .inr ⟨b,o,rfl,Nat.lt_of_lt_of_le hb ht.size,fun i hi j hj=>(ht.cell hb (hg b o rfl) _).trans (hc i hi j hj)⟩
def mapS (n:Nat) (st:RS):RS:=if st.l.length<mapSize n then giveS st 1 else st
def mapR (n:Nat) (st:RS):List Bool×RS:=((unmapL (byByte (mapS n st) (mapSize n)).1 n).1,failS (byByte (mapS n st) (mapSize n)).2 (unmapL (byByte (mapS n st) (mapSize n)).1 n).2)
theorem mapS_ok {n:Nat} {st:RS} (h:st.ok):(mapS n st).ok:=by unfold mapS;split;exact giveS_ok h 1;exact h
theorem failS_one (st:RS):failS st 1=giveS st 1:=by unfold failS;rw [if_pos (by decide)]
def MapPost (n:Nat) (g d:Nat) (st:RS) (w:World) (e:Ending) (w' :World):Prop:=
 ∃a c,e= .returned (.slice a (mapR n st).1.length c)∧Sl w' (.slice a (mapR n st).1.length c) 1 ((mapR n st).1.map boolC)∧(∀k o,a=some ⟨k,o,none⟩→w.heap.size≤k)∧RD w' g d (mapR n st).2∧Tch g w w'
theorem mapped_any (g d n:Nat) (st:RS) (w:World) (h:RD w g d st) (h16:n≤16):
 Calls Tryz.prog 84 #[.pointer (some ⟨g,0,none⟩), .int .i64 n] w (MapPost n g d st w):=by
 obtain ⟨i0,hi,hz0,hz1,hz2⟩:=info_parts Tryz.infoU8
 have hg:=h.lt
 have hok:st.ok:=by obtain ⟨_,_,_,hok,_⟩:=h;exact hok
 have H:=Hm h
 have HZ:=Hm (fun w=>msize_any n w h16)
 have HLF:=Hm (fun w h=>rleft_any g d st w h)
 have HFA:=Hm (fun w h=>fail_any g d st 1 w h)
 rw [failS_one] at HFA
 have hs2:mapSize n≤2:=by unfold mapSize;omega
 obtain ⟨S0,hS0⟩:∃S0,S0=mapS n st:=⟨_,rfl⟩
 have hok0:S0.ok:=hS0 ▸ mapS_ok hok
 have HS0:=Hm hS0
 have HOK:=Hm hok0
 obtain ⟨B,hB⟩:∃B,B=byByte S0 (mapSize n):=⟨_,rfl⟩
 have hBl:B.1.length=mapSize n:=by rw [hB,byByte_len]
 have hBb:isB B.1:=by rw [hB];exact byByte_isB hok0 _
 have HU:=Hm (fun W a c h=>unpack_any B.1 n a c W h hBb h16 hBl)
 rw [hBl] at HU
 have HF2:=Hm (fun w h=>fail_any g d B.2 (unmapL B.1 n).2 w h)
 have HMR:Hid (mapR n st=((unmapL B.1 n).1,failS B.2 (unmapL B.1 n).2)):=Hm (by unfold mapR;rw [←hS0,←hB])
 have HB:=Hm hB
 clear h hok hS0 hok0 hB hBl hBb
 unfold UnPost at HU
 obtain ⟨L,hL⟩:∃L,L=(unmapL B.1 n).1:=⟨_,rfl⟩
 obtain ⟨E,hE⟩:∃E,E=(unmapL B.1 n).2:=⟨_,rfl⟩
 rw [←hL,←hE] at HU HMR
 rw [←hE] at HF2
 clear hL hE
 by_cases hsh:st.l.length<mapSize n
 case pos=>
  have HS1:=Hm (HS0.out.trans (by unfold mapS;rw [if_pos hsh]))
  clear HS0
  go_enter Tryz.func84,Tryz.ntmps84
  go_wp2_with (first
   |(go_at_call 108;refine (HLF.out _ H.out).mono ?_;rintro e w1 ⟨rfl,rfl⟩)
   |(go_at_call 109;refine (HZ.out _).mono ?_;rintro e w1 ⟨rfl,rfl⟩)
   |(go_at_call 53;refine (HFA.out _ H.out).mono ?_;rintro e w2 ⟨rfl,hr2,ht2⟩;have HR2:=Hm hr2;have HT2:=Hm ht2;clear hr2 ht2))
  go_loopw [5,17] (fun v i wr=>∃k:Nat,k≤mapSize n∧i= .int .i64 k∧Hid (OB wr w.heap.size v (byByte S0 k).1)∧Hid (RD wr g d (byByte S0 k).2)∧Hid (Tch g w wr)) (fun _ i _=>mapSize n - (intOf i).toNat)
  case atStart=>exact ⟨0,Nat.zero_le _,rfl,Hm (OB.nil _ _),Hm (by have:=HR2.out;rw [←HS1.out] at this;exact this),HT2⟩
  case round=>
   obtain ⟨k,hk,rfl,hown,hr,hT⟩:=hrel
   by_cases hlt:k<mapSize n
   ·have HBY:=Hm (fun w h=>rbyte_any g d (byByte S0 k).2 w h)
    have HS:=Hm (show byByte S0 (k+1)=((byByte S0 k).1++ [(byteR (byByte S0 k).2).1],(byteR (byByte S0 k).2).2) from rfl)
    have hlb:=byByte_len S0 k
    obtain ⟨Bk,hBk⟩:∃Bk,Bk=byByte S0 k:=⟨_,rfl⟩
    rw [←hBk] at HBY HS hown hr hlb
    obtain ⟨x,hx⟩:∃x,x=(byteR Bk.2).1:=⟨_,rfl⟩
    rw [←hx] at HBY HS
    clear hBk hx
    go_wp2_with (first
     |(go_at_call 49;refine (HBY.out _ hr.out).mono ?_;rintro e w2 ⟨rfl,hr2,ht2⟩;have HR3:=Hm hr2;have HO3:=Hm (hown.out.tch ht2 hg);have HT3:=Hm (hT.out.trans ht2);clear hr2 ht2)
     |(at_builtin;refine wpList_append_own _ rfl _ _ 23 rfl w.heap.size 5 i0 _ 1 1 Tryz.underlying23 hi hz0 hz1 hz2 rfl (by decide) _ _ _ rfl (HO3.out.alloc _) ⟨_,0,none⟩ 1 1 (bs [x]) rfl rfl ?c1 ?c2 ?c3 ?c4 ?c5 ?_))
    case c1=>exact cells_new _ #[.int .u8 x] _
    case c2=>exact bs_one _
    case c3=>unfold maxLen;omega
    case c4=>omega
    case c5=>have:=HT3.out.size;simp;omega
    intro v' w3 hown' hgrow _
    have HO4:=Hm (OB.push hown' (by rw [hlb];rfl))
    have HR4:=Hm ((HR3.out.ext ((Ext.refl _).alloc (.cells #[.int .u8 x] 5))).grown hgrow (fun j hj=>by have:=(World.ownsRow.lt HO3.out j hj).1;omega))
    have HT4:=Hm ((HT3.out.alloc (.cells #[.int .u8 x] 5)).grown hgrow (fun j hj=>(World.ownsRow.lt HO3.out j hj).1))
    clear hown' hgrow
    go_wp2
    go_roundw
    case rel=>exact ⟨k+1,by omega,by go_num,Hm (by rw [HS.out];exact HO4.out),Hm (by rw [HS.out];exact HR4.out),HT4⟩
    case measure=>simp [intOf];omega
   ·have hkk:k=mapSize n:=by omega
    subst hkk
    rw [←HB.out] at hown hr
    obtain ⟨ab,cb,rfl⟩:=hown.out.shape
    have hbl:B.1.length=mapSize n:=by rw [HB.out,byByte_len]
    rw [hbl]
    have HSL:=Hm (hown.out.sl)
    rw [hbl] at HSL
    clear hown hbl
    go_wp2_with (first
     |(go_at_call 110;refine (HU.out _ _ _ HSL.out).mono ?_;rintro e w4 ⟨a4,c4,rfl,hs4,ha4,hb4⟩;have H4:=Hm hs4;have HE4:=Hm hb4;clear hs4 hb4)
     |(go_at_call 53;refine (HF2.out _ (hr.out.ext HE4.out)).mono ?_;rintro e w5 ⟨rfl,hr5,ht5⟩;have HR5:=Hm hr5;have HT5:=Hm ht5;clear hr5 ht5))
    go_ret
    unfold MapPost
    rw [HMR.out]
    have hz4:=hT.out.size
    exact ⟨a4,c4,rfl,H4.out.tch HT5.out (fun k o e=>by have:=ha4 k o e;omega),(fun k o e=>by have:=ha4 k o e;omega),HR5.out,(hT.out.trans (Tch.of_ext HE4.out)).trans HT5.out⟩
 case neg=>
  have HS1:=Hm (HS0.out.trans (by unfold mapS;rw [if_neg hsh]))
  clear HS0
  go_enter Tryz.func84,Tryz.ntmps84
  go_wp2_with (first
   |(go_at_call 108;refine (HLF.out _ H.out).mono ?_;rintro e w1 ⟨rfl,rfl⟩)
   |(go_at_call 109;refine (HZ.out _).mono ?_;rintro e w1 ⟨rfl,rfl⟩)
   |(go_at_call 53;refine (HFA.out _ H.out).mono ?_;rintro e w2 ⟨rfl,hr2,ht2⟩;have HR2:=Hm hr2;have HT2:=Hm ht2;clear hr2 ht2))
  go_loopw [5,17] (fun v i wr=>∃k:Nat,k≤mapSize n∧i= .int .i64 k∧Hid (OB wr w.heap.size v (byByte S0 k).1)∧Hid (RD wr g d (byByte S0 k).2)∧Hid (Tch g w wr)) (fun _ i _=>mapSize n - (intOf i).toNat)
  case atStart=>exact ⟨0,Nat.zero_le _,rfl,Hm (OB.nil _ _),Hm (by have:=H.out;rw [←HS1.out] at this;exact this),Hm (Tch.refl g w)⟩
  case round=>
   obtain ⟨k,hk,rfl,hown,hr,hT⟩:=hrel
   by_cases hlt:k<mapSize n
   ·have HBY:=Hm (fun w h=>rbyte_any g d (byByte S0 k).2 w h)
    have HS:=Hm (show byByte S0 (k+1)=((byByte S0 k).1++ [(byteR (byByte S0 k).2).1],(byteR (byByte S0 k).2).2) from rfl)
    have hlb:=byByte_len S0 k
    obtain ⟨Bk,hBk⟩:∃Bk,Bk=byByte S0 k:=⟨_,rfl⟩
    rw [←hBk] at HBY HS hown hr hlb
    obtain ⟨x,hx⟩:∃x,x=(byteR Bk.2).1:=⟨_,rfl⟩
    rw [←hx] at HBY HS
    clear hBk hx
    go_wp2_with (first
     |(go_at_call 49;refine (HBY.out _ hr.out).mono ?_;rintro e w2 ⟨rfl,hr2,ht2⟩;have HR3:=Hm hr2;have HO3:=Hm (hown.out.tch ht2 hg);have HT3:=Hm (hT.out.trans ht2);clear hr2 ht2)
     |(at_builtin;refine wpList_append_own _ rfl _ _ 23 rfl w.heap.size 5 i0 _ 1 1 Tryz.underlying23 hi hz0 hz1 hz2 rfl (by decide) _ _ _ rfl (HO3.out.alloc _) ⟨_,0,none⟩ 1 1 (bs [x]) rfl rfl ?c1 ?c2 ?c3 ?c4 ?c5 ?_))
    case c1=>exact cells_new _ #[.int .u8 x] _
    case c2=>exact bs_one _
    case c3=>unfold maxLen;omega
    case c4=>omega
    case c5=>have:=HT3.out.size;simp;omega
    intro v' w3 hown' hgrow _
    have HO4:=Hm (OB.push hown' (by rw [hlb];rfl))
    have HR4:=Hm ((HR3.out.ext ((Ext.refl _).alloc (.cells #[.int .u8 x] 5))).grown hgrow (fun j hj=>by have:=(World.ownsRow.lt HO3.out j hj).1;omega))
    have HT4:=Hm ((HT3.out.alloc (.cells #[.int .u8 x] 5)).grown hgrow (fun j hj=>(World.ownsRow.lt HO3.out j hj).1))
    clear hown' hgrow
    go_wp2
    go_roundw
    case rel=>exact ⟨k+1,by omega,by go_num,Hm (by rw [HS.out];exact HO4.out),Hm (by rw [HS.out];exact HR4.out),HT4⟩
    case measure=>simp [intOf];omega
   ·have hkk:k=mapSize n:=by omega
    subst hkk
    rw [←HB.out] at hown hr
    obtain ⟨ab,cb,rfl⟩:=hown.out.shape
    have hbl:B.1.length=mapSize n:=by rw [HB.out,byByte_len]
    rw [hbl]
    have HSL:=Hm (hown.out.sl)
    rw [hbl] at HSL
    clear hown hbl
    go_wp2_with (first
     |(go_at_call 110;refine (HU.out _ _ _ HSL.out).mono ?_;rintro e w4 ⟨a4,c4,rfl,hs4,ha4,hb4⟩;have H4:=Hm hs4;have HE4:=Hm hb4;clear hs4 hb4)
     |(go_at_call 53;refine (HF2.out _ (hr.out.ext HE4.out)).mono ?_;rintro e w5 ⟨rfl,hr5,ht5⟩;have HR5:=Hm hr5;have HT5:=Hm ht5;clear hr5 ht5))
    go_ret
    unfold MapPost
    rw [HMR.out]
    have hz4:=hT.out.size
    exact ⟨a4,c4,rfl,H4.out.tch HT5.out (fun k o e=>by have:=ha4 k o e;omega),(fun k o e=>by have:=ha4 k o e;omega),HR5.out,(hT.out.trans (Tch.of_ext HE4.out)).trans HT5.out⟩
def preV (kind ver:Int) (st:RS):V×RS:=if ver=1∨ver=2 then bodyR kind ver st else (⟨kind,0,0,0,ByteArray.empty⟩,giveS st 18)
def finV (V0:V) (S:RS):V×RS:=if (failS S V0.right).e≠0 then (V.zero,failS S V0.right) else (V0,failS S V0.right)
theorem takeV_eq (kind ver:Int) (st:RS):takeV kind ver st=finV (preV kind ver st).1 (preV kind ver st).2:=by
 unfold takeV preV
 by_cases h:ver=1∨ver=2
 ·rw [if_pos h,if_pos h];rfl
 ·rw [if_neg h,if_neg h]
  have hg:(giveS st 18).e≠0:=by unfold giveS;split;simp;assumption
  have hf:∀x,failS (giveS st 18) x=giveS st 18:=fun x=>by unfold failS;split;exact giveS_gave _ hg;rfl
  unfold finV
  simp only [hf]
  rw [if_pos hg]
theorem textR_len {st:RS} (m:Nat) (h:st.l.length≤1000000):(textR m st).1.length≤1000000:=by
 unfold textR bytesR
 simp only
 split
 ·simp
 ·have:(uintR m st).2.l.length≤st.l.length:=by
   unfold uintR giveS;simp only;(repeat' split)<;>simp
  simp;omega
theorem preV_size {kind ver:Int} {st:RS} (h:st.l.length≤1000000):(preV kind ver st).1.s.size≤1000000:=by
 have h0:ByteArray.empty.size≤1000000:=Nat.zero_le _
 unfold preV bodyR
 (repeat' split)<;>first|exact h0|(show (strOfNums _).size≤_;rw [strOfNums_size];exact textR_len 2048 h)
theorem byteR_rng {st:RS} (h:st.ok):0≤(byteR st).1∧(byteR st).1<256:=by
 have:=bytesR_isB h 1
 unfold byteR
 simp only
 cases hL:(bytesR 1 st).1 with
 |nil=>simp
 |cons x L=>rw [hL] at this;exact this.head
theorem wrap_toI64 {b:Nat} (h:b<2 ^ 64):wrap64 (b:Int)=toI64 b:=by unfold wrap64 toI64;split<;>omega
theorem Tch.set1 (g:Nat) (w:World) (i:Nat) (v:Value):Tch g w (w.setCell ⟨g,i,none⟩ v):=(Tch.refl g w).set i v
def TkRel (g d:Nat) (w:World) (V0:V) (S:RS) (wx:World):Prop:=
 Blk wx (w.heap.size+1) #[.int .u8 V0.ty, .int .i64 V0.n, .complex .f64 V0.x V0.y, .string V0.s] 155∧Blk wx w.heap.size #[.int .u8 0, .int .i64 0, .complex .f64 0 0, .string ByteArray.empty] 155∧RD wx g d S∧Tch g w wx
theorem TkRel.mk' {g d:Nat} {w wx:World} {V0:V} {S:RS} {ty n:Int} {x y:Nat} {s:ByteArray} (hV:V0=⟨ty,n,x,y,s⟩) (h7:Blk wx (w.heap.size+1) #[.int .u8 ty, .int .i64 n, .complex .f64 x y, .string s] 155)
 (h6:Blk wx w.heap.size #[.int .u8 0, .int .i64 0, .complex .f64 0 0, .string ByteArray.empty] 155) (hr:RD wx g d S) (ht:Tch g w wx):TkRel g d w V0 S wx:=by
 subst hV;exact ⟨h7,h6,hr,ht⟩
theorem TkRel.set {g d:Nat} {w w1:World} {V0:V} {S:RS} {ty n:Int} {x y:Nat} {s:ByteArray} {ty' n' :Int} {x' y' :Nat} {s' :ByteArray} (i:Nat) (v:Value) (hV:V0=⟨ty,n,x,y,s⟩)
 (he:(#[.int .u8 ty', .int .i64 n', .complex .f64 x' y', .string s']:Array Value).setIfInBounds i v= #[.int .u8 ty, .int .i64 n, .complex .f64 x y, .string s]) (hg:g<w.heap.size)
 (h7:Blk w1 (w.heap.size+1) #[.int .u8 ty', .int .i64 n', .complex .f64 x' y', .string s'] 155)
 (h6:Blk w1 w.heap.size #[.int .u8 0, .int .i64 0, .complex .f64 0 0, .string ByteArray.empty] 155) (hr:RD w1 g d S) (ht:Tch g w w1):TkRel g d w V0 S (w1.setCell ⟨w.heap.size+1,i,none⟩ v):=by
 refine TkRel.mk' hV (by rw [←he];exact h7.set i v) (h6.other _ _ (by simp)) (hr.tch ((Tch.refl (w.heap.size+1) w1).set i v) (by omega) (.inr (by omega))) (ht.setNew (by omega) _ _)
theorem vtake_any (g d:Nat) (st:RS) (kind ver:Int) (w:World) (h:RD w g d st) (hk0:0≤kind) (hk1:kind<256):
 Calls Tryz.prog 116 #[.pointer (some ⟨g,0,none⟩), .int .u8 kind, .int .u8 ver] w (RPost g d w (.agg #[.int .u8 (takeV kind ver st).1.ty, .int .i64 (takeV kind ver st).1.n, .complex .f64 (takeV kind ver st).1.x (takeV kind ver st).1.y, .string (takeV kind ver st).1.s]) (takeV kind ver st).2):=by
 have H:=Hm h
 have hg:=h.lt
 have hok:st.ok:=by obtain ⟨_,_,_,hok,_⟩:=h;exact hok
 have hok:st.ok:=by obtain ⟨_,_,_,hok,_⟩:=h;exact hok
 have hlen:st.l.length≤1000000:=by obtain ⟨_,_,_,_,hlen⟩:=h;exact hlen
 have hsz:=preV_size (kind:=kind) (ver:=ver) hlen
 clear h
 rw [takeV_eq]
 obtain ⟨V0,hV0⟩:∃V0,V0=(preV kind ver st).1:=⟨_,rfl⟩
 obtain ⟨S,hS⟩:∃S,S=(preV kind ver st).2:=⟨_,rfl⟩
 rw [←hV0,←hS]
 rw [←hV0] at hsz
 have HV0:=Hm hV0
 have HS:=Hm hS
 clear hV0 hS
 go_enter Tryz.func116,Tryz.ntmps116
 go_upto_block 0 with (fail)
 go_cut [] (fun wx=>Hid (TkRel g d w V0 S wx))
 case first=>
  as_aux_lemma=>
   by_cases hv:ver=1∨ver=2
   ·have HVS:=Hm (fun w=>versioned_yes ver w (by omega) (by omega))
    have hpre:preV kind ver st=bodyR kind ver st:=by unfold preV;rw [if_pos hv]
    rw [hpre] at HV0 HS
    clear hpre
    by_cases q1:kind=1
    ·subst q1
     have e:bodyR 1 ver st=(⟨1,(byteR st).1,0,0,ByteArray.empty⟩,(byteR st).2):=by rfl
     rw [e] at HV0 HS
     have HC:=Hm (fun w h=>rbyte_any g d st w h)
     have hb01:=byteR_rng hok
     generalize byteR st=U at*
     obtain ⟨b,S1⟩:=U
     simp only at HV0 HS HC
     clear e
     go_wp2_with (first
      |(go_at_call 149;refine (HVS.out _).mono ?_;rintro e w0 ⟨rfl,rfl⟩)
      |(go_at_call 49;refine (HC.out _ (H.out.ext (by exact eX))).mono ?_;rintro e w1 ⟨rfl,hr1,ht1⟩;have h7:=(Blk.new' (w:=w.alloc (.cells #[.int .u8 0, .int .i64 0, .complex .f64 0 0, .string ByteArray.empty] 155)) (b:=w.heap.size+1) _ 155 (by simp)).tch ht1 (by omega);have h6:=((Blk.new w #[.int .u8 0, .int .i64 0, .complex .f64 0 0, .string ByteArray.empty] 155).alloc _).tch ht1 (by omega);have HB7:=Hm h7;have HB6:=Hm h6;have k7:=h7.cell;have f7:=h7.frozen;have z7:=h7.lt;have HR1:=Hm hr1;have HT1:Hid (Tch g w w1):=Hm ((((Tch.refl g w).alloc _).alloc _).trans ht1);clear h7 h6 hr1 ht1))
     go_meet
     case rel=>
      have h:=TkRel.set 1 (.int .i64 b) HV0.out rfl hg HB7.out HB6.out (HS.out ▸ HR1.out) HT1.out
      exact h
    by_cases q2:kind=2
    ·subst q2
     rcases hv with rfl|rfl
     ·skip
      have e:bodyR 2 1 st=(⟨2,toI64 (wordR st).1,0,0,ByteArray.empty⟩,(wordR st).2):=by rfl
      rw [e] at HV0 HS
      have HC:=Hm (fun w h=>rword2_any g d st w h)
      have hlt:=wordR_lt hok
      generalize wordR st=U at*
      obtain ⟨b,S1⟩:=U
      simp only at HV0 HS HC
      clear e
      go_wp2_with (first
       |(go_at_call 149;refine (HVS.out _).mono ?_;rintro e w0 ⟨rfl,rfl⟩)
       |(go_at_call 150;refine (HC.out _ (H.out.ext (by exact eX))).mono ?_;rintro e w1 ⟨rfl,hr1,ht1⟩;have h7:=(Blk.new' (w:=w.alloc (.cells #[.int .u8 0, .int .i64 0, .complex .f64 0 0, .string ByteArray.empty] 155)) (b:=w.heap.size+1) _ 155 (by simp)).tch ht1 (by omega);have h6:=((Blk.new w #[.int .u8 0, .int .i64 0, .complex .f64 0 0, .string ByteArray.empty] 155).alloc _).tch ht1 (by omega);have HB7:=Hm h7;have HB6:=Hm h6;have k7:=h7.cell;have f7:=h7.frozen;have z7:=h7.lt;have HR1:=Hm hr1;have HT1:Hid (Tch g w w1):=Hm ((((Tch.refl g w).alloc _).alloc _).trans ht1);clear h7 h6 hr1 ht1))
      go_meet
      case rel=>
       have h:=TkRel.set 1 (.int .i64 (wrap64 b)) HV0.out (by rw [wrap_toI64 hlt];rfl) hg HB7.out HB6.out (HS.out ▸ HR1.out) HT1.out
       exact h
     ·skip
      have e:bodyR 2 2 st=(⟨2,(intR st).1,0,0,ByteArray.empty⟩,(intR st).2):=by rfl
      rw [e] at HV0 HS
      have HC:=Hm (fun w h=>rint_any g d st w h)
      generalize intR st=U at*
      obtain ⟨b,S1⟩:=U
      simp only at HV0 HS HC
      clear e
      go_wp2_with (first
       |(go_at_call 149;refine (HVS.out _).mono ?_;rintro e w0 ⟨rfl,rfl⟩)
       |(go_at_call 151;refine (HC.out _ (H.out.ext (by exact eX))).mono ?_;rintro e w1 ⟨rfl,hr1,ht1⟩;have h7:=(Blk.new' (w:=w.alloc (.cells #[.int .u8 0, .int .i64 0, .complex .f64 0 0, .string ByteArray.empty] 155)) (b:=w.heap.size+1) _ 155 (by simp)).tch ht1 (by omega);have h6:=((Blk.new w #[.int .u8 0, .int .i64 0, .complex .f64 0 0, .string ByteArray.empty] 155).alloc _).tch ht1 (by omega);have HB7:=Hm h7;have HB6:=Hm h6;have k7:=h7.cell;have f7:=h7.frozen;have z7:=h7.lt;have HR1:=Hm hr1;have HT1:Hid (Tch g w w1):=Hm ((((Tch.refl g w).alloc _).alloc _).trans ht1);clear h7 h6 hr1 ht1))
      go_meet
      case rel=>
       have h:=TkRel.set 1 (.int .i64 b) HV0.out rfl hg HB7.out HB6.out (HS.out ▸ HR1.out) HT1.out
       exact h
    by_cases q3:kind=3
    ·subst q3
     have e:bodyR 3 ver st=(⟨3,0,(floatR ver st).1,0,ByteArray.empty⟩,(floatR ver st).2):=by rfl
     rw [e] at HV0 HS
     have HC:=Hm (fun w h=>vtf_any g d st ver w h)
     generalize floatR ver st=U at*
     obtain ⟨b,S1⟩:=U
     simp only at HV0 HS HC
     clear e
     go_wp2_with (first
      |(go_at_call 149;refine (HVS.out _).mono ?_;rintro e w0 ⟨rfl,rfl⟩)
      |(go_at_call 152;refine (vof_any b 0 _).mono ?_;rintro e w3 ⟨rfl,rfl⟩;simp only [Int.toNat_natCast,Int.toNat_zero])
      |(go_at_call 153;refine (HC.out _ (H.out.ext (by exact eX))).mono ?_;rintro e w1 ⟨rfl,hr1,ht1⟩;have h7:=(Blk.new' (w:=w.alloc (.cells #[.int .u8 0, .int .i64 0, .complex .f64 0 0, .string ByteArray.empty] 155)) (b:=w.heap.size+1) _ 155 (by simp)).tch ht1 (by omega);have h6:=((Blk.new w #[.int .u8 0, .int .i64 0, .complex .f64 0 0, .string ByteArray.empty] 155).alloc _).tch ht1 (by omega);have HB7:=Hm h7;have HB6:=Hm h6;have k7:=h7.cell;have f7:=h7.frozen;have z7:=h7.lt;have HR1:=Hm hr1;have HT1:Hid (Tch g w w1):=Hm ((((Tch.refl g w).alloc _).alloc _).trans ht1);clear h7 h6 hr1 ht1))
     go_meet
     case rel=>
      have h:=TkRel.set 2 (.complex .f64 b 0) HV0.out rfl hg HB7.out HB6.out (HS.out ▸ HR1.out) HT1.out
      exact h
    by_cases q4:kind=4
    ·subst q4
     have e:bodyR 4 ver st=(⟨4,0,(complexR ver st).1.1,(complexR ver st).1.2,ByteArray.empty⟩,(complexR ver st).2):=by rfl
     rw [e] at HV0 HS
     have HC:=Hm (fun w h=>vtc_any g d st ver w h)
     generalize complexR ver st=U at*
     obtain ⟨⟨b,c⟩,S1⟩:=U
     simp only at HV0 HS HC
     clear e
     go_wp2_with (first
      |(go_at_call 149;refine (HVS.out _).mono ?_;rintro e w0 ⟨rfl,rfl⟩)
      |(go_at_call 154;refine (HC.out _ (H.out.ext (by exact eX))).mono ?_;rintro e w1 ⟨rfl,hr1,ht1⟩;have h7:=(Blk.new' (w:=w.alloc (.cells #[.int .u8 0, .int .i64 0, .complex .f64 0 0, .string ByteArray.empty] 155)) (b:=w.heap.size+1) _ 155 (by simp)).tch ht1 (by omega);have h6:=((Blk.new w #[.int .u8 0, .int .i64 0, .complex .f64 0 0, .string ByteArray.empty] 155).alloc _).tch ht1 (by omega);have HB7:=Hm h7;have HB6:=Hm h6;have k7:=h7.cell;have f7:=h7.frozen;have z7:=h7.lt;have HR1:=Hm hr1;have HT1:Hid (Tch g w w1):=Hm ((((Tch.refl g w).alloc _).alloc _).trans ht1);clear h7 h6 hr1 ht1))
     go_meet
     case rel=>
      have h:=TkRel.set 2 (.complex .f64 b c) HV0.out rfl hg HB7.out HB6.out (HS.out ▸ HR1.out) HT1.out
      exact h
    by_cases q5:kind=5∨kind=6
    ·rcases q5 with rfl|rfl
     ·skip
      have e:bodyR 5 ver st=(⟨5,0,0,0,strOfNums (textR 2048 st).1⟩,(textR 2048 st).2):=by rfl
      rw [e] at HV0 HS
      have HC:=Hm (fun w h=>rtxt_any g d st 2048 w h (by decide) (by decide))
      generalize textR 2048 st=U at*
      obtain ⟨b,S1⟩:=U
      simp only at HV0 HS HC
      clear e
      go_wp2_with (first
       |(go_at_call 149;refine (HVS.out _).mono ?_;rintro e w0 ⟨rfl,rfl⟩)
       |(go_at_call 147;refine (HC.out _ (H.out.ext (by exact eX))).mono ?_;rintro e w1 ⟨rfl,hr1,ht1⟩;have h7:=(Blk.new' (w:=w.alloc (.cells #[.int .u8 0, .int .i64 0, .complex .f64 0 0, .string ByteArray.empty] 155)) (b:=w.heap.size+1) _ 155 (by simp)).tch ht1 (by omega);have h6:=((Blk.new w #[.int .u8 0, .int .i64 0, .complex .f64 0 0, .string ByteArray.empty] 155).alloc _).tch ht1 (by omega);have HB7:=Hm h7;have HB6:=Hm h6;have k7:=h7.cell;have f7:=h7.frozen;have z7:=h7.lt;have HR1:=Hm hr1;have HT1:Hid (Tch g w w1):=Hm ((((Tch.refl g w).alloc _).alloc _).trans ht1);clear h7 h6 hr1 ht1))
      go_meet
      case rel=>
       have h:=TkRel.set 3 (.string (strOfNums b)) HV0.out rfl hg HB7.out HB6.out (HS.out ▸ HR1.out) HT1.out
       exact h
     ·skip
      have e:bodyR 6 ver st=(⟨6,0,0,0,strOfNums (textR 2048 st).1⟩,(textR 2048 st).2):=by rfl
      rw [e] at HV0 HS
      have HC:=Hm (fun w h=>rtxt_any g d st 2048 w h (by decide) (by decide))
      generalize textR 2048 st=U at*
      obtain ⟨b,S1⟩:=U
      simp only at HV0 HS HC
      clear e
      go_wp2_with (first
       |(go_at_call 149;refine (HVS.out _).mono ?_;rintro e w0 ⟨rfl,rfl⟩)
       |(go_at_call 147;refine (HC.out _ (H.out.ext (by exact eX))).mono ?_;rintro e w1 ⟨rfl,hr1,ht1⟩;have h7:=(Blk.new' (w:=w.alloc (.cells #[.int .u8 0, .int .i64 0, .complex .f64 0 0, .string ByteArray.empty] 155)) (b:=w.heap.size+1) _ 155 (by simp)).tch ht1 (by omega);have h6:=((Blk.new w #[.int .u8 0, .int .i64 0, .complex .f64 0 0, .string ByteArray.empty] 155).alloc _).tch ht1 (by omega);have HB7:=Hm h7;have HB6:=Hm h6;have k7:=h7.cell;have f7:=h7.frozen;have z7:=h7.lt;have HR1:=Hm hr1;have HT1:Hid (Tch g w w1):=Hm ((((Tch.refl g w).alloc _).alloc _).trans ht1);clear h7 h6 hr1 ht1))
      go_meet
      case rel=>
       have h:=TkRel.set 3 (.string (strOfNums b)) HV0.out rfl hg HB7.out HB6.out (HS.out ▸ HR1.out) HT1.out
       exact h
    ·have e:bodyR kind ver st=(⟨kind,0,0,0,ByteArray.empty⟩,st):=by unfold bodyR;rw [if_neg q1,if_neg q2,if_neg q3,if_neg q4,if_neg q5]
     rw [e] at HV0 HS
     have r1:(kind==1)=false:=by simpa using q1
     have r2:(kind==2)=false:=by simpa using q2
     have r3:(kind==3)=false:=by simpa using q3
     have r4:(kind==4)=false:=by simpa using q4
     have r5:(kind==5)=false:=by simpa using fun h=>q5 (.inl h)
     have r6:(kind==6)=false:=by simpa using fun h=>q5 (.inr h)
     clear q1 q2 q3 q4 q5 e
     go_wp2_with (first
      |(go_at_call 149;refine (HVS.out _).mono ?_;rintro e w0 ⟨rfl,rfl⟩))
     go_meet
     case rel=>
      exact TkRel.mk' HV0.out (Blk.new' (w:=w.alloc (.cells #[.int .u8 0, .int .i64 0, .complex .f64 0 0, .string ByteArray.empty] 155)) (b:=w.heap.size+1) _ 155 (by simp)) ((Blk.new w #[.int .u8 0, .int .i64 0, .complex .f64 0 0, .string ByteArray.empty] 155).alloc _) (by rw [HS.out];exact H.out.ext (by exact eX)) (((Tch.refl g w).alloc _).alloc _)
   ·have HVS:=Hm (fun w=>versioned_no ver w (by omega))
    have hpre:preV kind ver st=(⟨kind,0,0,0,ByteArray.empty⟩,giveS st 18):=by unfold preV;rw [if_neg hv]
    rw [hpre] at HV0 HS
    simp only at HV0 HS
    have HC:=Hm (fun w h=>fail_any g d st 18 w h)
    have hfs:failS st 18=giveS st 18:=by unfold failS;rw [if_pos (by decide)]
    rw [hfs] at HC
    clear hpre hfs
    go_wp2_with (first
     |(go_at_call 149;refine (HVS.out _).mono ?_;rintro e w0 ⟨rfl,rfl⟩)
     |(go_at_call 53;refine (HC.out _ (H.out.ext (by exact eX))).mono ?_;rintro e w1 ⟨rfl,hr1,ht1⟩;have h7:=(Blk.new' (w:=w.alloc (.cells #[.int .u8 0, .int .i64 0, .complex .f64 0 0, .string ByteArray.empty] 155)) (b:=w.heap.size+1) _ 155 (by simp)).tch ht1 (by omega);have h6:=((Blk.new w #[.int .u8 0, .int .i64 0, .complex .f64 0 0, .string ByteArray.empty] 155).alloc _).tch ht1 (by omega);have HB7:=Hm h7;have HB6:=Hm h6;have k7:=h7.cell;have f7:=h7.frozen;have z7:=h7.lt;have HR1:=Hm hr1;have HT1:Hid (Tch g w w1):=Hm ((((Tch.refl g w).alloc _).alloc _).trans ht1);clear h7 h6 hr1 ht1))
    go_meet
    case rel=>exact TkRel.mk' HV0.out HB7.out HB6.out (HS.out ▸ HR1.out) HT1.out
 case rest=>
  as_aux_lemma=>
   obtain ⟨h7,h6,hr,ht⟩:=hcut.out
   clear hcut
   have HRt:=Hm (fun w=>vright_any V0.ty V0.n V0.x V0.y V0.s w (by omega))
   have HF:=Hm (fun w h=>fail_any g d S V0.right w h)
   have HER:=Hm (fun w h=>rerr_any g d (failS S V0.right) w h)
   obtain ⟨R,hR⟩:∃R,R=rightV V0.ty V0.n V0.x V0.y V0.s:=⟨_,rfl⟩
   have hR2:V0.right=R:=hR.symm
   rw [←hR] at HRt
   rw [hR2] at HF HER
   obtain ⟨S2,hS2⟩:∃S2,S2=failS S R:=⟨_,rfl⟩
   rw [←hS2] at HF HER
   have k7:=h7.cell
   have k6:=h6.cell
   have HB7:=Hm h7
   have HB6:=Hm h6
   have HR:=Hm hr
   have HT:=Hm ht
   clear h7 h6 hr ht hR
   obtain ⟨ty,n,x,y,s⟩:=V0
   by_cases he:S2.e=0
   ·have HFIN:Hid (finV ⟨ty,n,x,y,s⟩ S=(⟨ty,n,x,y,s⟩,S2)):=Hm (by unfold finV;rw [hR2,←hS2,if_neg (by simpa using he)])
    rw [he] at HER
    clear hR2 hS2 he
    simp only at*
    go_wp2_with (first
     |(go_at_call 148;refine (HRt.out _).mono ?_;rintro e w1 ⟨rfl,hb1⟩;have HE1:=Hm hb1;have HR1:=Hm (HR.out.ext hb1);clear hb1)
     |(go_at_call 53;refine (HF.out _ HR1.out).mono ?_;rintro e w2 ⟨rfl,hr2,ht2⟩;have h7:=(HB7.out.ext HE1.out).tch ht2 (by omega);have h6:=(HB6.out.ext HE1.out).tch ht2 (by omega);have j7:=h7.cell;have j6:=h6.cell;have f6:=h6.frozen;have z6:=h6.lt;have HR2:=Hm hr2;have HT2:=Hm (HT.out.trans ((Tch.of_ext HE1.out).trans ht2));have HQ6:=Hm h6;clear h7 h6 hr2 ht2)
     |(go_at_call 83;refine (HER.out _ HR2.out).mono ?_;rintro e w3 ⟨rfl,rfl⟩))
    refine bodyPost_ret (v:= .agg #[.int .u8 ty, .int .i64 n, .complex .f64 x y, .string s]) (by simp [results,Tryz.results116,go_sem,j6]) rfl ⟨?_, ?_, ?_⟩
    ·rw [HFIN.out]
    ·rw [HFIN.out];exact (((HR2.out.tch (Tch.set1 _ _ _ _) (by omega) (.inr (by omega))).tch (Tch.set1 _ _ _ _) (by omega) (.inr (by omega))).tch (Tch.set1 _ _ _ _) (by omega) (.inr (by omega))).tch (Tch.set1 _ _ _ _) (by omega) (.inr (by omega))
    ·exact (((HT2.out.setNew (Nat.le_refl _) _ _).setNew (Nat.le_refl _) _ _).setNew (Nat.le_refl _) _ _).setNew (Nat.le_refl _) _ _
   ·have HFIN:Hid (finV ⟨ty,n,x,y,s⟩ S=(V.zero,S2)):=Hm (by unfold finV;rw [hR2,←hS2,if_pos he])
    have he2:(S2.e !=0)=true:=by simpa using he
    clear hR2 hS2 he
    simp only at*
    go_wp2_with (first
     |(go_at_call 148;refine (HRt.out _).mono ?_;rintro e w1 ⟨rfl,hb1⟩;have HE1:=Hm hb1;have HR1:=Hm (HR.out.ext hb1);clear hb1)
     |(go_at_call 53;refine (HF.out _ HR1.out).mono ?_;rintro e w2 ⟨rfl,hr2,ht2⟩;have h7:=(HB7.out.ext HE1.out).tch ht2 (by omega);have h6:=(HB6.out.ext HE1.out).tch ht2 (by omega);have j7:=h7.cell;have j6:=h6.cell;have f6:=h6.frozen;have z6:=h6.lt;have HR2:=Hm hr2;have HT2:=Hm (HT.out.trans ((Tch.of_ext HE1.out).trans ht2));have HQ6:=Hm h6;clear h7 h6 hr2 ht2)
     |(go_at_call 83;refine (HER.out _ HR2.out).mono ?_;rintro e w3 ⟨rfl,rfl⟩))
    refine bodyPost_ret (v:= .agg #[.int .u8 0, .int .i64 0, .complex .f64 0 0, .string ⟨#[]⟩]) (by simp [results,Tryz.results116,go_sem,j6]) rfl ⟨?_, ?_, ?_⟩
    ·rw [HFIN.out];rfl
    ·rw [HFIN.out];exact (((HR2.out.tch (Tch.set1 _ _ _ _) (by omega) (.inr (by omega))).tch (Tch.set1 _ _ _ _) (by omega) (.inr (by omega))).tch (Tch.set1 _ _ _ _) (by omega) (.inr (by omega))).tch (Tch.set1 _ _ _ _) (by omega) (.inr (by omega))
    ·exact (((HT2.out.setNew (Nat.le_refl _) _ _).setNew (Nat.le_refl _) _ _).setNew (Nat.le_refl _) _ _).setNew (Nat.le_refl _) _ _
theorem Blk.five {W:World} {b:Nat} {u0 u1 u2 u3 u4 v0 v1 v2 v3 v4:Value} {T:TypeId} (h:Blk W b #[u0,u1,u2,u3,u4] T):
 Blk (((((W.setCell ⟨b,0,none⟩ v0).setCell ⟨b,1,none⟩ v1).setCell ⟨b,2,none⟩ v2).setCell ⟨b,3,none⟩ v3).setCell ⟨b,4,none⟩ v4) b #[v0,v1,v2,v3,v4] T:=((((h.set 0 _).set 1 _).set 2 _).set 3 _).set 4 _
theorem Blk.six {W:World} {b:Nat} {u0 u1 u2 u3 u4 u5 v0 v1 v2 v3 v4 v5:Value} {T:TypeId} (h:Blk W b #[u0,u1,u2,u3,u4,u5] T):
 Blk ((((((W.setCell ⟨b,0,none⟩ v0).setCell ⟨b,1,none⟩ v1).setCell ⟨b,2,none⟩ v2).setCell ⟨b,3,none⟩ v3).setCell ⟨b,4,none⟩ v4).setCell ⟨b,5,none⟩ v5) b #[v0,v1,v2,v3,v4,v5] T:=(((((h.set 0 _).set 1 _).set 2 _).set 3 _).set 4 _).set 5 _
theorem RD.set {W:World} {g d b:Nat} {st:RS} (h:RD W g d st) (hb:g<b) (i:Nat) (v:Value):RD (W.setCell ⟨b,i,none⟩ v) g d st:=h.tch (Tch.set1 b W i v) (by omega) (.inr (by omega))
theorem RF.set {W:World} {g d b:Nat} {st:RS} (h:RF W g d st) (hb:g<b) (i:Nat) (v:Value):RF (W.setCell ⟨b,i,none⟩ v) g d st:=h.tch (Tch.set1 b W i v) (by omega) (.inr (by omega))
theorem RD.five {W:World} {g d b:Nat} {st:RS} {v0 v1 v2 v3 v4:Value} (h:RD W g d st) (hb:g<b):
 RD (((((W.setCell ⟨b,0,none⟩ v0).setCell ⟨b,1,none⟩ v1).setCell ⟨b,2,none⟩ v2).setCell ⟨b,3,none⟩ v3).setCell ⟨b,4,none⟩ v4) g d st:=((((h.set hb 0 _).set hb 1 _).set hb 2 _).set hb 3 _).set hb 4 _
theorem Tch.five {w W:World} {g b:Nat} {v0 v1 v2 v3 v4:Value} (h:Tch g w W) (hb:w.heap.size≤b):
 Tch g w (((((W.setCell ⟨b,0,none⟩ v0).setCell ⟨b,1,none⟩ v1).setCell ⟨b,2,none⟩ v2).setCell ⟨b,3,none⟩ v3).setCell ⟨b,4,none⟩ v4):=((((h.setNew hb 0 _).setNew hb 1 _).setNew hb 2 _).setNew hb 3 _).setNew hb 4 _
theorem RF.six {W:World} {g d b:Nat} {st:RS} {v0 v1 v2 v3 v4 v5:Value} (h:RF W g d st) (hb:g<b):
 RF ((((((W.setCell ⟨b,0,none⟩ v0).setCell ⟨b,1,none⟩ v1).setCell ⟨b,2,none⟩ v2).setCell ⟨b,3,none⟩ v3).setCell ⟨b,4,none⟩ v4).setCell ⟨b,5,none⟩ v5) g d st:=(((((h.set hb 0 _).set hb 1 _).set hb 2 _).set hb 3 _).set hb 4 _).set hb 5 _
theorem Tch.six {w W:World} {g b:Nat} {v0 v1 v2 v3 v4 v5:Value} (h:Tch g w W) (hb:w.heap.size≤b):
 Tch g w ((((((W.setCell ⟨b,0,none⟩ v0).setCell ⟨b,1,none⟩ v1).setCell ⟨b,2,none⟩ v2).setCell ⟨b,3,none⟩ v3).setCell ⟨b,4,none⟩ v4).setCell ⟨b,5,none⟩ v5):=(((((h.setNew hb 0 _).setNew hb 1 _).setNew hb 2 _).setNew hb 3 _).setNew hb 4 _).setNew hb 5 _
def K.agg (c:K):Value:= .agg #[.int .u8 c.k, .int .u8 c.v.ty, .int .i64 c.v.n, .complex .f64 c.v.x c.v.y, .string c.v.s]
def CTPost (g d:Nat) (w:World) (R:(K×Nat)×RS) (e:Ending) (w' :World):Prop:=∃(c:K) (m:Nat),e= .returned (.tuple #[c.agg, .int .i64 m])∧(R.2.e=0→(c,m)=R.1)∧RD w' g d R.2∧Tch g w w'
theorem CTPost.mk' {g d:Nat} {w w' :World} {R:(K×Nat)×RS} (c:K) (m:Nat) {S:RS} (h2:R.2=S) (h1:R.2.e=0→(c,m)=R.1) (hr:RD w' g d S) (ht:Tch g w w'):CTPost g d w R (.returned (.tuple #[c.agg, .int .i64 m])) w' :=
 ⟨c,m,rfl,h1,by rw [h2];exact hr,ht⟩
theorem res_first {W:World} {b:Nat} {k ty n:Int} {x y:Nat} {s:ByteArray} {m:Int} {tm:Array Value} (h:Blk W b #[.int .u8 k, .int .u8 ty, .int .i64 n, .complex .f64 x y, .string s] 157) (ht:tm.getD 4 undef= .pointer (some ⟨b,0,none⟩)) (hm:tm.getD 5 undef= .int .i64 m):
 (results Tryz.f112 tm).run Tryz.prog W= .ok (.tuple #[.agg #[.int .u8 k, .int .u8 ty, .int .i64 n, .complex .f64 x y, .string s], .int .i64 m]) W:=by
 have c:=h.cell
 have c0:=c 0
 have c1:=c 1
 have c2:=c 2
 have c3:=c 3
 have c4:=c 4
 clear c h
 simp at c0 c1 c2 c3 c4
 rw [Array.getD_eq_getD_getElem?] at ht hm
 simp [results,Tryz.results112,go_sem,ht,hm,c0,c1,c2,c3,c4]
theorem res_second {W:World} {b:Nat} {k ty n:Int} {x y:Nat} {s:ByteArray} {m:Int} {tm:Array Value} (h:Blk W b #[.int .u8 k, .int .u8 ty, .int .i64 n, .complex .f64 x y, .string s] 157) (ht:tm.getD 4 undef= .pointer (some ⟨b,0,none⟩)) (hm:tm.getD 5 undef= .int .i64 m):
 (results Tryz.f114 tm).run Tryz.prog W= .ok (.tuple #[.agg #[.int .u8 k, .int .u8 ty, .int .i64 n, .complex .f64 x y, .string s], .int .i64 m]) W:=by
 have c:=h.cell
 have c0:=c 0
 have c1:=c 1
 have c2:=c 2
 have c3:=c 3
 have c4:=c 4
 clear c h
 simp at c0 c1 c2 c3 c4
 rw [Array.getD_eq_getD_getElem?] at ht hm
 simp [results,Tryz.results114,go_sem,ht,hm,c0,c1,c2,c3,c4]
theorem res_ctake {W:World} {b:Nat} {k ty n:Int} {x y:Nat} {s:ByteArray} {m:Int} {tm:Array Value} (h:Blk W b #[.int .u8 k, .int .u8 ty, .int .i64 n, .complex .f64 x y, .string s] 157) (ht:tm.getD 6 undef= .pointer (some ⟨b,0,none⟩)) (hm:tm.getD 7 undef= .int .i64 m):
 (results Tryz.f85 tm).run Tryz.prog W= .ok (.tuple #[.agg #[.int .u8 k, .int .u8 ty, .int .i64 n, .complex .f64 x y, .string s], .int .i64 m]) W:=by
 have c:=h.cell
 have c0:=c 0
 have c1:=c 1
 have c2:=c 2
 have c3:=c 3
 have c4:=c 4
 clear c h
 simp at c0 c1 c2 c3 c4
 rw [Array.getD_eq_getD_getElem?] at ht hm
 simp [results,Tryz.results85,go_sem,ht,hm,c0,c1,c2,c3,c4]
theorem clr_any (g d:Nat) (st:RS) (w:World) (h:RD w g d st):
 Calls Tryz.prog 146 #[.pointer (some ⟨g,0,none⟩)] w (RPost g d w (.int .i64 (largeR st).1) (largeR st).2):=by
 have H:=Hm h
 have HU:=Hm (fun w h=>ruint2_any g d st 2048 w h (by omega))
 have hle:=uintR_le (st:=st) 2048
 unfold largeR
 simp only
 generalize uintR 2048 st=U at*
 obtain ⟨n,st1⟩:=U
 simp only at*
 clear h
 by_cases h64:n≤64
 ·rw [if_pos h64]
  have HF:=Hm (fun w h=>fail_any g d st1 4 w h)
  go_enter Tryz.func146,Tryz.ntmps146
  go_wp2_with (first
   |(go_at_call 50;refine (HU.out _ H.out).mono ?_;rintro e w1 ⟨rfl,hr,ht⟩;have HR:=Hm hr;have HT:=Hm ht;clear hr ht)
   |(go_at_call 53;refine (HF.out _ HR.out).mono ?_;rintro e w2 ⟨rfl,hr,ht⟩;have HR2:=Hm hr;have HT2:=Hm ht;clear hr ht))
  go_ret
  exact ⟨rfl,HR2.out,HT.out.trans HT2.out⟩
 ·rw [if_neg h64]
  have h64' :64<n:=by omega
  clear h64
  go_enter Tryz.func146,Tryz.ntmps146
  go_wp2_with (first
   |(go_at_call 50;refine (HU.out _ H.out).mono ?_;rintro e w1 ⟨rfl,hr,ht⟩;have HR:=Hm hr;have HT:=Hm ht;clear hr ht))
  go_ret
  exact ⟨rfl,HR.out,HT.out⟩
theorem first_same (g d:Nat) (st:RS) (kind:Int) (w:World) (h:RD w g d st) (S:RS) (hb:byteR st=(0,S)) (he:S.e=0) (hk:kind=5∨kind=6):
 Calls Tryz.prog 112 #[.pointer (some ⟨g,0,none⟩), .int .u8 kind] w (CTPost g d w (firstC kind st)):=by
 have H:=Hm h
 have hg:=h.lt
 have HB:=Hm (fun w h=>rbyte_any g d st w h)
 rw [hb] at HB
 have HER:=Hm (fun w h=>rerr_any g d S w h)
 rw [he] at HER
 have HX:=Hm (fun w=>texty_yes kind w hk)
 have HO:Hid (firstC kind st=((⟨1,V.zero⟩,0),S)):=Hm (by unfold firstC;rw [hb];simp only;rw [if_neg (by simpa using he),if_neg (by omega)];exact if_pos trivial)
 have hB0:=Blk.new w #[.int .u8 0, .int .u8 0, .int .i64 0, .complex .f64 0 0, .string ByteArray.empty] 157
 clear h hb he hk
 go_enter Tryz.func112,Tryz.ntmps112
 go_wp2_with (first
  |(go_at_call 49;refine (HB.out _ (H.out.ext (by exact eX))).mono ?_;rintro e w1 ⟨rfl,hr1,ht1⟩;have HR1:=Hm hr1;have hT1:=hB0.tch ht1 (by omega);have k1:=hT1.cell;have f1:=hT1.frozen;have z1:=hT1.lt;have HT1:Hid (Tch g w w1):=Hm (((Tch.refl g w).alloc _).trans ht1);have HB1:=Hm hT1;clear hr1 ht1 hT1)
  |(go_at_call 83;refine (HER.out _ HR1.out).mono ?_;rintro e w9 ⟨rfl,rfl⟩)
  |(go_at_call 113;refine (HX.out _).mono ?_;rintro e w8 ⟨rfl,rfl⟩))
 refine bodyPost_ret (v:= .tuple #[(⟨1,V.zero⟩:K).agg, .int .i64 (0:Nat)]) (res_first (Blk.five HB1.out) rfl rfl) rfl ?_
 exact CTPost.mk' ⟨1,V.zero⟩ 0 (by rw [HO.out]) (fun _=>by rw [HO.out]) (RD.five HR1.out hg) (Tch.five HT1.out (Nat.le_refl _))
theorem first_large (g d:Nat) (st:RS) (kind:Int) (w:World) (h:RD w g d st) (S:RS) (hb:byteR st=(2,S)) (he:S.e=0) (hk:kind=5∨kind=6):
 Calls Tryz.prog 112 #[.pointer (some ⟨g,0,none⟩), .int .u8 kind] w (CTPost g d w (firstC kind st)):=by
 have H:=Hm h
 have hg:=h.lt
 have HB:=Hm (fun w h=>rbyte_any g d st w h)
 rw [hb] at HB
 have HER:=Hm (fun w h=>rerr_any g d S w h)
 rw [he] at HER
 have HX:=Hm (fun w=>texty_yes kind w hk)
 have HL:=Hm (fun w h=>clr_any g d S w h)
 have HO:Hid (firstC kind st=((fullT kind,(largeR S).1),(largeR S).2)):=Hm (by unfold firstC;rw [hb];simp only;rw [if_neg (by simpa using he),if_neg (by omega),if_neg (by decide)];exact if_pos trivial)
 have hB0:=Blk.new w #[.int .u8 0, .int .u8 0, .int .i64 0, .complex .f64 0 0, .string ByteArray.empty] 157
 generalize largeR S=U at*
 obtain ⟨m,S2⟩:=U
 simp only at HL HO
 clear h hb he hk
 go_enter Tryz.func112,Tryz.ntmps112
 go_wp2_with (first
  |(go_at_call 49;refine (HB.out _ (H.out.ext (by exact eX))).mono ?_;rintro e w1 ⟨rfl,hr1,ht1⟩;have HR1:=Hm hr1;have hT1:=hB0.tch ht1 (by omega);have k1:=hT1.cell;have f1:=hT1.frozen;have z1:=hT1.lt;have HT1:Hid (Tch g w w1):=Hm (((Tch.refl g w).alloc _).trans ht1);have HB1:=Hm hT1;clear hr1 ht1 hT1)
  |(go_at_call 83;refine (HER.out _ HR1.out).mono ?_;rintro e w9 ⟨rfl,rfl⟩)
  |(go_at_call 113;refine (HX.out _).mono ?_;rintro e w8 ⟨rfl,rfl⟩)
  |(go_at_call 115;refine (celof_any kind 0 0 0 ByteArray.empty _).mono ?_;rintro e w7 ⟨rfl,hb7⟩;have hT7:=HB1.out.ext hb7;have HB7:=Hm hT7;have HR7:=Hm (HR1.out.ext hb7);have HT7:Hid (Tch g w w7):=Hm (HT1.out.trans (Tch.of_ext hb7));clear hT7)
  |(go_at_call 146;refine (HL.out _ HR7.out).mono ?_;rintro e w2 ⟨rfl,hr2,ht2⟩;have HR2:=Hm hr2;have hT2:=HB7.out.tch ht2 (by omega);have k2:=hT2.cell;have f2:=hT2.frozen;have z2:=hT2.lt;have HT2:Hid (Tch g w w2):=Hm (HT7.out.trans ht2);have HB2:=Hm hT2;clear hr2 ht2 hT2))
 refine bodyPost_ret (v:= .tuple #[(fullT kind).agg, .int .i64 (m:Nat)]) (res_first (Blk.five HB2.out) rfl rfl) rfl ?_
 exact CTPost.mk' (fullT kind) m (by rw [HO.out]) (fun _=>by rw [HO.out]) (RD.five HR2.out hg) (Tch.five HT2.out (Nat.le_refl _))
theorem first_rest (g d:Nat) (st:RS) (kind:Int) (w:World) (h:RD w g d st) (t:Int) (S T:RS) (hb:byteR st=(t,S)) (hk0:0≤kind) (hk1:kind<256)
 (hc:(S.e≠0∧T=S)∨(S.e=0∧(2<t∨(t≠1∧kind≠5∧kind≠6))∧T=giveS S 7)∨(S.e=0∧t=1∧T=S))
 (h2:(firstC kind st).2=(tailC kind T).2) (h1:(firstC kind st).2.e=0→(firstC kind st).1=(tailC kind T).1):
 Calls Tryz.prog 112 #[.pointer (some ⟨g,0,none⟩), .int .u8 kind] w (CTPost g d w (firstC kind st)):=by
 have H:=Hm h
 have hg:=h.lt
 have HB:=Hm (fun w h=>rbyte_any g d st w h)
 rw [hb] at HB
 have HER:=Hm (fun w h=>rerr_any g d S w h)
 have HF:=Hm (fun w h=>fail_any g d S 7 w h)
 have hB0:=Blk.new w #[.int .u8 0, .int .u8 0, .int .i64 0, .complex .f64 0 0, .string ByteArray.empty] 157
 have HC:=Hm hc
 have H2:=Hm h2
 have H1:=Hm h1
 clear h hb hc h1 h2
 go_enter Tryz.func112,Tryz.ntmps112
 go_upto_block 0 with (first|(go_at_call 49;refine (HB.out _ (H.out.ext (by exact eX))).mono ?_;rintro e w1 ⟨rfl,hr1,ht1⟩;have HR1:=Hm hr1;have hT1:=hB0.tch ht1 (by omega);have k1:=hT1.cell;have f1:=hT1.frozen;have z1:=hT1.lt;have HT1:Hid (Tch g w w1):=Hm (((Tch.refl g w).alloc _).trans ht1);have HB1:=Hm hT1;clear hr1 ht1 hT1))
 clear k1 f1 z1
 go_cut [] (fun wx=>Hid (RD wx g d T)∧Hid (Tch g w wx)∧Hid (Blk wx w.heap.size #[.int .u8 0, .int .u8 0, .int .i64 0, .complex .f64 0 0, .string ByteArray.empty] 157))
 case first=>
  as_aux_lemma=>
   rcases HC.out with ⟨he,rfl⟩|⟨he,ht,rfl⟩|⟨he,rfl,rfl⟩
   ·have he2:(T.e !=0)=true:=by simpa using he
    clear he
    go_wp2_with (go_at_call 83;refine (HER.out _ HR1.out).mono ?_;rintro e w9 ⟨rfl,rfl⟩)
    go_meet
    case rel=>exact ⟨HR1,HT1,HB1⟩
   ·rw [he] at HER
    have hf:failS S 7=giveS S 7:=by unfold failS;rw [if_pos (by decide)]
    rw [hf] at HF
    clear hf he
    by_cases h3:2<t
    ·clear ht
     go_wp2_with (first
      |(go_at_call 83;refine (HER.out _ HR1.out).mono ?_;rintro e w9 ⟨rfl,rfl⟩)
      |(go_at_call 53;refine (HF.out _ HR1.out).mono ?_;rintro e w2 ⟨rfl,hr2,ht2⟩;have HR2:=Hm hr2;have HT2:=Hm (HT1.out.trans ht2);have HB2:=Hm (HB1.out.tch ht2 (by omega));clear hr2 ht2))
     go_meet
     case rel=>exact ⟨HR2,HT2,HB2⟩
    ·have ht2:=ht.resolve_left h3
     have htn:(t !=1)=true:=by simpa using ht2.1
     have HX:=Hm (fun w=>texty_no kind w ht2.2)
     have h3' :t≤2:=by omega
     clear ht ht2 h3
     go_wp2_with (first
      |(go_at_call 83;refine (HER.out _ HR1.out).mono ?_;rintro e w9 ⟨rfl,rfl⟩)
      |(go_at_call 113;refine (HX.out _).mono ?_;rintro e w8 ⟨rfl,rfl⟩)
      |(go_at_call 53;refine (HF.out _ HR1.out).mono ?_;rintro e w2 ⟨rfl,hr2,ht2⟩;have HR2:=Hm hr2;have HT2:=Hm (HT1.out.trans ht2);have HB2:=Hm (HB1.out.tch ht2 (by omega));clear hr2 ht2))
     go_meet
     case rel=>exact ⟨HR2,HT2,HB2⟩
   ·rw [he] at HER
    clear he
    go_wp2_with (go_at_call 83;refine (HER.out _ HR1.out).mono ?_;rintro e w9 ⟨rfl,rfl⟩)
    go_meet
    case rel=>exact ⟨HR1,HT1,HB1⟩
 case rest=>
  clear HC HER HF HB HR1 HT1 HB1 hB0 H
  obtain ⟨HR1,HT1,HB1⟩:=hcut
  have hok:T.ok:=by obtain ⟨_,_,_,hok,_⟩:=HR1.out;exact hok
  have hlen:T.l.length≤1000000:=by obtain ⟨_,_,_,_,hlen⟩:=HR1.out;exact hlen
  by_cases hk:kind=5∨kind=6
  ·have hto:tailC kind T=textK kind (textR 64 T):=by unfold tailC;rw [if_pos hk]
   have HX:=Hm (fun w=>texty_yes kind w hk)
   have HTX:=Hm (fun w h=>rtxt_any g d T 64 w h (by decide) (by decide))
   have hsz:=textR_len (st:=T) 64 hlen
   rw [hto] at H2 H1
   generalize textR 64 T=U at*
   obtain ⟨L,S2⟩:=U
   simp only at HTX hsz
   have hss:(strOfNums L).size≤1000000:=by rw [strOfNums_size];exact hsz
   generalize hstr:strOfNums L=str at*
   unfold textK at H2 H1
   rw [hstr] at H2 H1
   simp only at H2 H1
   have HVR:=Hm (fun w=>vright_any kind 0 0 0 str w (by omega))
   generalize rightV kind 0 ((0:Nat):Int) ((0:Nat):Int) str=R at*
   have HF:=Hm (fun w h=>fail_any g d S2 R w h)
   generalize failS S2 R=S3 at*
   clear hto hok hlen hsz hstr hk
   go_wp2_with (first
    |(go_at_call 113;refine (HX.out _).mono ?_;rintro e w8 ⟨rfl,rfl⟩)
    |(go_at_call 147;refine (HTX.out _ HR1.out).mono ?_;rintro e w2 ⟨rfl,hr2,ht2⟩;have hB2:=HB1.out.tch ht2 (by omega);have hz2:=hB2.lt;have HR2:=Hm (hr2.ext ((Ext.refl w2).alloc (.cells #[.int .u8 kind, .int .i64 0, .complex .f64 0 0, .string str] 155)));have HT2:Hid (Tch g w (w2.alloc (.cells #[.int .u8 kind, .int .i64 0, .complex .f64 0 0, .string str] 155))):=Hm ((HT1.out.trans ht2).alloc _);have HB2:=Hm (hB2.alloc (.cells #[.int .u8 kind, .int .i64 0, .complex .f64 0 0, .string str] 155));have HV2:=Hm (Blk.new w2 #[.int .u8 kind, .int .i64 0, .complex .f64 0 0, .string str] 155);have hg2:=hr2.lt;clear hr2 ht2 hB2)
    |(go_at_call 148;refine (HVR.out _).mono ?_;rintro e w3 ⟨rfl,hb3⟩;have HR3:=Hm (HR2.out.ext hb3);have HT3:=Hm (HT2.out.trans (Tch.of_ext hb3));have HB3:=Hm (HB2.out.ext hb3);have HV3:=Hm (HV2.out.ext hb3);clear hb3)
    |(go_at_call 53;refine (HF.out _ HR3.out).mono ?_;rintro e w4 ⟨rfl,hr4,ht4⟩;have HR4:=Hm hr4;have HT4:=Hm (HT3.out.trans ht4);have HB4:=Hm (HB3.out.tch ht4 (by omega));have hv4:=HV3.out.tch ht4 (by omega);have kv4:=hv4.cell;clear hr4 ht4 hv4)
    |(go_at_call 115;refine (celof_any kind 0 0 0 str _).mono ?_;rintro e w7 ⟨rfl,hb7⟩;have hT7:=HB4.out.ext hb7;have k7:=hT7.cell;have f7:=hT7.frozen;have z7:=hT7.lt;have HB7:=Hm hT7;have HR7:=Hm (HR4.out.ext hb7);have HT7:Hid (Tch g w w7):=Hm (HT4.out.trans (Tch.of_ext hb7));clear hT7))
   refine bodyPost_ret (v:= .tuple #[(⟨2,⟨kind,0,0,0,str⟩⟩:K).agg, .int .i64 (0:Nat)]) (res_first (Blk.five HB7.out) rfl rfl) rfl ?_
   exact CTPost.mk' ⟨2,⟨kind,0,0,0,str⟩⟩ 0 H2.out (fun he=>(H1.out he).symm) (RD.five HR7.out hg) (Tch.five HT7.out (Nat.le_refl _))
  ·have hto:tailC kind T=((⟨2,(takeV kind 1 T).1⟩,0),(takeV kind 1 T).2):=by unfold tailC;rw [if_neg hk]
   have HX:=Hm (fun w=>texty_no kind w (by omega))
   have HV:=Hm (fun w h=>vtake_any g d T kind 1 w h hk0 hk1)
   rw [hto] at H2 H1
   generalize takeV kind 1 T=U at*
   obtain ⟨⟨ty,n,x,y,s⟩,S2⟩:=U
   simp only at HV H2 H1
   clear hto hok hlen hk
   go_wp2_with (first
    |(go_at_call 113;refine (HX.out _).mono ?_;rintro e w8 ⟨rfl,rfl⟩)
    |(go_at_call 116;refine (HV.out _ HR1.out).mono ?_;rintro e w2 ⟨rfl,hr2,ht2⟩;have HR2:=Hm hr2;have HT2:=Hm (HT1.out.trans ht2);have HB2:=Hm (HB1.out.tch ht2 (by omega));clear hr2 ht2)
    |(go_at_call 115;refine (celof_any _ _ _ _ _ _).mono ?_;rintro e w7 ⟨rfl,hb7⟩;have hT7:=HB2.out.ext hb7;have k7:=hT7.cell;have f7:=hT7.frozen;have z7:=hT7.lt;have HB7:=Hm hT7;have HR7:=Hm (HR2.out.ext hb7);have HT7:Hid (Tch g w w7):=Hm (HT2.out.trans (Tch.of_ext hb7));clear hT7))
   refine bodyPost_ret (v:= .tuple #[(⟨2,⟨ty,n,x,y,s⟩⟩:K).agg, .int .i64 (0:Nat)]) (res_first (Blk.five HB7.out) rfl rfl) rfl ?_
   exact CTPost.mk' ⟨2,⟨ty,n,x,y,s⟩⟩ 0 H2.out (fun he=>(H1.out he).symm) (RD.five HR7.out hg) (Tch.five HT7.out (Nat.le_refl _))
theorem first_any (g d:Nat) (st:RS) (kind:Int) (w:World) (h:RD w g d st) (hk0:0≤kind) (hk1:kind<256):
 Calls Tryz.prog 112 #[.pointer (some ⟨g,0,none⟩), .int .u8 kind] w (CTPost g d w (firstC kind st)):=by
 have hok:st.ok:=by obtain ⟨_,_,_,hok,_⟩:=h;exact hok
 obtain ⟨t,S,hb⟩:∃t S,byteR st=(t,S):=⟨_,_,rfl⟩
 have hSok:S.ok:=by have:=byteR_ok hok;rw [hb] at this;exact this
 have htr:=byteR_rng hok
 rw [hb] at htr
 simp only at htr
 by_cases he:S.e=0
 ·by_cases hbad:2<t∨(t≠1∧kind≠5∧kind≠6)
  ·obtain ⟨e,he2,hg⟩:=giveS_nil (x:=7) (by decide) hSok
   have hF:firstC kind st=((K.zero,0),giveS S 7):=by unfold firstC;rw [hb];simp only;rw [if_neg (by simpa using he),if_pos hbad]
   refine first_rest g d st kind w h t S (giveS S 7) hb hk0 hk1 (.inr (.inl ⟨he,hbad,rfl⟩)) ?_ ?_
   ·rw [hF,hg,tailC_gave he2]
   ·intro h0;rw [hF,hg] at h0;exact absurd h0 he2
  ·have hF:firstC kind st=if t=0 then ((⟨1,V.zero⟩,0),S) else if t=2 then ((fullT kind,(largeR S).1),(largeR S).2) else tailC kind S:=by
    unfold firstC tailC;rw [hb];simp only;rw [if_neg (by simpa using he),if_neg hbad]
   by_cases h0:t=0
   ·subst h0
    exact first_same g d st kind w h S hb he (by omega)
   ·by_cases h2:t=2
    ·subst h2
     exact first_large g d st kind w h S hb he (by omega)
    ·have h1:t=1:=by omega
     rw [if_neg h0,if_neg h2] at hF
     refine first_rest g d st kind w h t S S hb hk0 hk1 (.inr (.inr ⟨he,h1,rfl⟩)) (by rw [hF]) (fun _=>by rw [hF])
 ·have hF:firstC kind st=((K.zero,0),S):=by unfold firstC;rw [hb];simp only;rw [if_pos he]
  refine first_rest g d st kind w h t S S hb hk0 hk1 (.inl ⟨he,rfl⟩) ?_ ?_
  ·rw [hF,gave_form hSok he,tailC_gave he]
  ·intro h0;rw [hF] at h0;exact absurd h0 he
theorem uintR_zero {m:Nat} {st S:RS} {n:Nat} (hok:st.ok) (h:uintR m st=(n,S)) (he:S.e≠0):n=0:=by
 by_cases h0:st.e=0
 ·unfold uintR at h
  simp only at h
  split at h
  ·exact (Prod.ext_iff.1 h).1.symm
  ·split at h
   ·exact (Prod.ext_iff.1 h).1.symm
   ·have:=congrArg (fun z=>z.2.e) h
    simp only at this
    exact absurd (this.symm.trans h0) he
 ·rw [gave_form hok h0,uintR_gave h0] at h
  exact (Prod.ext_iff.1 h).1.symm
theorem second_same (g d:Nat) (st:RS) (kind:Int) (w:World) (h:RD w g d st) (S:RS) (hb:uintR 66 st=(0,S)) (he:S.e=0):
 Calls Tryz.prog 114 #[.pointer (some ⟨g,0,none⟩), .int .u8 kind] w (CTPost g d w (secondC kind st)):=by
 have H:=Hm h
 have hg:=h.lt
 have HB:=Hm (fun w h=>ruint2_any g d st 66 w h (by omega))
 rw [hb] at HB
 have HER:=Hm (fun w h=>rerr_any g d S w h)
 rw [he] at HER
 have HO:Hid (secondC kind st=((⟨1,V.zero⟩,0),S)):=Hm (by unfold secondC;rw [hb];simp only;rw [if_neg (by simpa using he)];exact if_pos trivial)
 have hB0:=Blk.new w #[.int .u8 0, .int .u8 0, .int .i64 0, .complex .f64 0 0, .string ByteArray.empty] 157
 clear h hb he
 go_enter Tryz.func114,Tryz.ntmps114
 go_wp2_with (first
  |(go_at_call 50;refine (HB.out _ (H.out.ext (by exact eX))).mono ?_;rintro e w1 ⟨rfl,hr1,ht1⟩;have HR1:=Hm hr1;have hT1:=hB0.tch ht1 (by omega);have k1:=hT1.cell;have f1:=hT1.frozen;have z1:=hT1.lt;have HT1:Hid (Tch g w w1):=Hm (((Tch.refl g w).alloc _).trans ht1);have HB1:=Hm hT1;have hg1:=hr1.lt;clear hr1 ht1 hT1)
  |(go_at_call 83;refine (HER.out _ HR1.out).mono ?_;rintro e w9 ⟨rfl,rfl⟩))
 refine bodyPost_ret (v:= .tuple #[(⟨1,V.zero⟩:K).agg, .int .i64 (0:Nat)]) (res_second (Blk.five HB1.out) rfl rfl) rfl ?_
 exact CTPost.mk' ⟨1,V.zero⟩ 0 (by rw [HO.out]) (fun _=>by rw [HO.out]) (RD.five HR1.out hg) (Tch.five HT1.out (Nat.le_refl _))
theorem second_large (g d:Nat) (st:RS) (kind:Int) (w:World) (h:RD w g d st) (S:RS) (hb:uintR 66 st=(1,S)) (he:S.e=0):
 Calls Tryz.prog 114 #[.pointer (some ⟨g,0,none⟩), .int .u8 kind] w (CTPost g d w (secondC kind st)):=by
 have H:=Hm h
 have hg:=h.lt
 have HB:=Hm (fun w h=>ruint2_any g d st 66 w h (by omega))
 rw [hb] at HB
 have HER:=Hm (fun w h=>rerr_any g d S w h)
 rw [he] at HER
 have HL:=Hm (fun w h=>clr_any g d S w h)
 have HO:Hid (secondC kind st=((fullT kind,(largeR S).1),(largeR S).2)):=Hm (by unfold secondC;rw [hb];simp only;rw [if_neg (by simpa using he),if_neg (by decide)];exact if_pos trivial)
 have hB0:=Blk.new w #[.int .u8 0, .int .u8 0, .int .i64 0, .complex .f64 0 0, .string ByteArray.empty] 157
 generalize largeR S=U at*
 obtain ⟨m,S2⟩:=U
 simp only at HL HO
 clear h hb he
 go_enter Tryz.func114,Tryz.ntmps114
 go_wp2_with (first
  |(go_at_call 50;refine (HB.out _ (H.out.ext (by exact eX))).mono ?_;rintro e w1 ⟨rfl,hr1,ht1⟩;have HR1:=Hm hr1;have hT1:=hB0.tch ht1 (by omega);have k1:=hT1.cell;have f1:=hT1.frozen;have z1:=hT1.lt;have HT1:Hid (Tch g w w1):=Hm (((Tch.refl g w).alloc _).trans ht1);have HB1:=Hm hT1;have hg1:=hr1.lt;clear hr1 ht1 hT1)
  |(go_at_call 83;refine (HER.out _ HR1.out).mono ?_;rintro e w9 ⟨rfl,rfl⟩)
  |(go_at_call 115;refine (celof_any kind 0 0 0 ByteArray.empty _).mono ?_;rintro e w7 ⟨rfl,hb7⟩;have hT7:=HB1.out.ext hb7;have HB7:=Hm hT7;have HR7:=Hm (HR1.out.ext hb7);have HT7:Hid (Tch g w w7):=Hm (HT1.out.trans (Tch.of_ext hb7));clear hT7)
  |(go_at_call 146;refine (HL.out _ HR7.out).mono ?_;rintro e w2 ⟨rfl,hr2,ht2⟩;have HR2:=Hm hr2;have hT2:=HB7.out.tch ht2 (by omega);have k2:=hT2.cell;have f2:=hT2.frozen;have z2:=hT2.lt;have HT2:Hid (Tch g w w2):=Hm (HT7.out.trans ht2);have HB2:=Hm hT2;clear hr2 ht2 hT2))
 refine bodyPost_ret (v:= .tuple #[(fullT kind).agg, .int .i64 (m:Nat)]) (res_second (Blk.five HB2.out) rfl rfl) rfl ?_
 exact CTPost.mk' (fullT kind) m (by rw [HO.out]) (fun _=>by rw [HO.out]) (RD.five HR2.out hg) (Tch.five HT2.out (Nat.le_refl _))
def SecRel (g d B:Nat) (w:World) (kind:Int) (L:List Int) (N:Nat) (E:Int) (q:Nat) (wr:World):Prop:=
 ∃k,q+k=N∧Blk wr B #[.int .u8 kind, .int .i64 0, .complex .f64 0 0, .string (strOfNums (L.take k))] 155∧RD wr g d ⟨L.drop k,E⟩∧Blk wr w.heap.size #[.int .u8 0, .int .u8 0, .int .i64 0, .complex .f64 0 0, .string ByteArray.empty] 157∧Tch g w wr
theorem strOf_append (l m:List Int):strOfNums l++strOfNums m=strOfNums (l++m):=by
 unfold strOfNums
 rw [ByteArray.mk_append_mk]
 simp
def SecCase (n:Nat) (S T:RS) (N:Nat):Prop:=
 (n=0∧S.e≠0∧T=S∧N=0)∨(S.e=0∧3≤n∧n≤66∧S.l.length<n - 2∧T=giveS S 1∧N=0∧T.e≠0)∨(S.e=0∧2≤n∧n≤66∧n - 2≤S.l.length∧T=S∧N=n - 2)
theorem second_rest (g d:Nat) (st:RS) (kind:Int) (w:World) (h:RD w g d st) (n:Nat) (S T:RS) (N:Nat) (hb:uintR 66 st=(n,S)) (hn66:n≤66)
 (hc:SecCase n S T N)
 (h2:(secondC kind st).2=(textK kind (T.l.take N,⟨T.l.drop N,T.e⟩)).2) (h1:(secondC kind st).2.e=0→(secondC kind st).1=(textK kind (T.l.take N,⟨T.l.drop N,T.e⟩)).1):
 Calls Tryz.prog 114 #[.pointer (some ⟨g,0,none⟩), .int .u8 kind] w (CTPost g d w (secondC kind st)):=by
 have H:=Hm h
 have hg:=h.lt
 have HB:=Hm (fun w h=>ruint2_any g d st 66 w h (by omega))
 rw [hb] at HB
 have HER:=Hm (fun w h=>rerr_any g d S w h)
 have HLE:=Hm (fun w h=>rleft_any g d S w h)
 have HF:=Hm (fun w h=>fail_any g d S 1 w h)
 have hB0:=Blk.new w #[.int .u8 0, .int .u8 0, .int .i64 0, .complex .f64 0 0, .string ByteArray.empty] 157
 have HC:=Hm hc
 have H2:=Hm h2
 have H1:=Hm h1
 have hok:st.ok:=by obtain ⟨_,_,_,hok,_⟩:=h;exact hok
 have HSL:Hid (S.l.length≤1000000):=by
  obtain ⟨_,_,_,_,hl⟩:=h
  have:=congrArg (fun z=>z.2.l.length) hb
  simp only at this
  rw [←this]
  unfold uintR giveS
  simp only
  refine Hm ?_
  (repeat' split)<;>simp<;>omega
 clear h hb hc h1 h2
 go_enter Tryz.func114,Tryz.ntmps114
 go_upto_block 0 with (first|(go_at_call 50;refine (HB.out _ (H.out.ext (by exact eX))).mono ?_;rintro e w1 ⟨rfl,hr1,ht1⟩;have HR1:=Hm hr1;have hT1:=hB0.tch ht1 (by omega);have k1:=hT1.cell;have f1:=hT1.frozen;have z1:=hT1.lt;have HT1:Hid (Tch g w w1):=Hm (((Tch.refl g w).alloc _).trans ht1);have HB1:=Hm hT1;have hg1:=hr1.lt;clear hr1 ht1 hT1))
 clear k1 f1 z1 hg1
 go_cut [] (fun wx=>Hid (RD wx g d T)∧Hid (Tch g w wx)∧Hid (Blk wx w.heap.size #[.int .u8 0, .int .u8 0, .int .i64 0, .complex .f64 0 0, .string ByteArray.empty] 157))
 case first=>
  as_aux_lemma=>
   rcases HC.out with ⟨hn,he,rfl, -⟩|⟨he,hn3, -,hl,rfl, -, -⟩|⟨he,hn2, -,hl,rfl, -⟩
   ·have he2:(T.e !=0)=true:=by simpa using he
    subst hn
    clear he
    go_wp2_with (go_at_call 83;refine (HER.out _ HR1.out).mono ?_;rintro e w9 ⟨rfl,rfl⟩)
    go_meet
    case rel=>exact ⟨HR1,HT1,HB1⟩
   ·rw [he] at HER
    have hf:failS S 1=giveS S 1:=by unfold failS;rw [if_pos (by decide)]
    rw [hf] at HF
    have hl2:=HSL.out
    have hw:IntKind.u64.wrap (n - 2:Int)=(n:Int) - 2:=by rw [u64_wrap];omega
    have hll:((S.l.length:Nat):Int)<(n:Int) - 2:=by omega
    clear hf he hl
    go_wp2_with (first
     |(go_at_call 83;refine (HER.out _ HR1.out).mono ?_;rintro e w9 ⟨rfl,rfl⟩)
     |(go_at_call 108;refine (HLE.out _ HR1.out).mono ?_;rintro e w8 ⟨rfl,rfl⟩)
     |(go_at_call 53;refine (HF.out _ HR1.out).mono ?_;rintro e w2 ⟨rfl,hr2,ht2⟩;have HR2:=Hm hr2;have HT2:=Hm (HT1.out.trans ht2);have HB2:=Hm (HB1.out.tch ht2 (by omega));clear hr2 ht2))
    go_meet
    case rel=>exact ⟨HR2,HT2,HB2⟩
   ·rw [he] at HER
    have hl2:=HSL.out
    have hw:IntKind.u64.wrap (n - 2:Int)=(n:Int) - 2:=by rw [u64_wrap];omega
    have hll:(n:Int) - 2≤((T.l.length:Nat):Int):=by omega
    clear he hl
    go_wp2_with (first
     |(go_at_call 83;refine (HER.out _ HR1.out).mono ?_;rintro e w9 ⟨rfl,rfl⟩)
     |(go_at_call 108;refine (HLE.out _ HR1.out).mono ?_;rintro e w8 ⟨rfl,rfl⟩))
    all_goals
     go_meet
     case rel=>exact ⟨HR1,HT1,HB1⟩
 case rest=>
  clear HER HLE HF HB HR1 HT1 HB1 hB0 H
  obtain ⟨HR1,HT1,HB1⟩:=hcut
  have hgc:=HR1.out.lt
  have hwc:=HB1.out.lt
  have hzw:w.heap.size<wc.heap.size:=hwc
  obtain ⟨L,E⟩:=T
  simp only at H1 H2 HR1
  have hTok:isB L:=by obtain ⟨_,_,_,hok,_⟩:=HR1.out;exact hok.2
  have HTok:=Hm hTok
  have HLL:Hid (L.length≤1000000):=by obtain ⟨_,_,_,_,hl⟩:=HR1.out;exact Hm hl
  have hNL:N≤64:=by rcases HC.out with ⟨_,_,_,h⟩|⟨_,_,_,_,_,h,_⟩|⟨_,_,_,_,_,h⟩<;>omega
  clear hTok
  go_upto_block 1 with (fail)
  go_cut [] (fun wx=>Hid (RD wx g d ⟨L.drop N,E⟩)∧Hid (Blk wx wc.heap.size #[.int .u8 kind, .int .i64 0, .complex .f64 0 0, .string (strOfNums (L.take N))] 155)∧Hid (Blk wx w.heap.size #[.int .u8 0, .int .u8 0, .int .i64 0, .complex .f64 0 0, .string ByteArray.empty] 157)∧Hid (Tch g w wx))
  case first=>
   as_aux_lemma=>
    go_wp2_with fail
    go_loopg [48] N (fun q _ wr=>Hid (SecRel g d wc.heap.size w kind L N E q wr))
    case atStart=>
     exact Hm ⟨0,by omega,Blk.new wc _ _,HR1.out.ext ((Ext.refl wc).alloc _),HB1.out.alloc _,HT1.out.alloc _⟩
    case round=>
     obtain ⟨k,hqk,hbv,hrd,hbz,htc⟩:=hrel.out
     clear hrel
     have HT:=Hm htc
     have HRD:=Hm hrd
     have HBZ:=Hm hbz
     have HBV:=Hm hbv
     have kv:=hbv.cell
     have fv:=hbv.frozen
     have zv:=hbv.lt
     clear htc hrd hbz hbv
     have hss:(strOfNums (L.take k)).size=(L.take k).length:=strOfNums_size _
     by_cases hlt:k<N
     ·obtain ⟨hE0,hn2,hnL,hNn⟩:E=0∧2≤n∧n - 2≤L.length∧N=n - 2:=by
       rcases HC.out with ⟨_,_,_,h⟩|⟨_,_,_,_,_,h,_⟩|⟨h0,h1,_,h3,h4,h5⟩
       ·omega
       ·omega
       ·rw [←h4] at h0 h3;exact ⟨h0,h1,h3,h5⟩
      subst hE0
      have hkl:k<L.length:=by omega
      have htl:(L.take k).length=k:=by simp;omega
      rw [htl] at hss
      have hk2:(k:Int)+2<(n:Int):=by omega
      have hx:0≤L.getD k 0∧L.getD k 0<256:=HTok.out _ (by rw [List.getD_eq_getElem?_getD,List.getElem?_eq_getElem hkl];exact List.getElem_mem hkl)
      have hdr:L.drop k=L.getD k 0::L.drop (k+1):=by rw [List.drop_eq_getElem_cons hkl];simp [List.getD,List.getElem?_eq_getElem hkl]
      have htk:L.take (k+1)=L.take k++ [L.getD k 0]:=by rw [List.take_succ_eq_append_getElem hkl];simp [List.getD,List.getElem?_eq_getElem hkl]
      have HER:=Hm (fun w h=>rerr_any g d ⟨L.drop k,0⟩ w h)
      have HBy:=Hm (fun w h=>rbyte_any g d ⟨L.drop k,0⟩ w h)
      rw [hdr] at HRD HER HBy
      rw [byteR_cons] at HBy
      simp only at HBy HER
      have hsum:strOfNums (L.take k)++strOfNums [L.getD k 0]=strOfNums (L.take (k+1)):=by rw [htk,strOf_append]
      generalize L.getD k 0=x at*
      obtain ⟨A,hA⟩:∃A,A=strOfNums (L.take k):=⟨_,rfl⟩
      rw [←hA] at hss kv hsum HBV
      obtain ⟨A2,hA2⟩:∃A,A=strOfNums (L.take (k+1)):=⟨_,rfl⟩
      rw [←hA2] at hsum
      have hx1:(strOfNums [x]).size=1:=strOfNums_size _
      have hadd:∀w:World,(Op.stringOp .add A (strOfNums [x])).run Tryz.prog w= .ok (.string A2) w:=fun w=>by rw [run_string_add_sum w _ _ (by rw [hss,hx1];omega),hsum]
      have HA2:=Hm hA2
      clear hsum hx1 hdr htk htl hA hA2
      go_upto_region 11 with (first
       |(go_at_call 83;refine (HER.out _ HRD.out).mono ?_;rintro e w9 ⟨rfl,rfl⟩))
      go_region_law
       (first
        |(go_simp;go_at_call 49;refine (HBy.out _ (HRD.out.ext (by exact eX))).mono ?_;rintro e w1 ⟨rfl,hr1,ht1⟩;have HR1:=Hm hr1;have hbv1:=(HBV.out.ext (by exact eX)).tch ht1 (by omega);have HBV1:=Hm hbv1;have kv1:=hbv1.cell;have fv1:=hbv1.frozen;have zv1:=hbv1.lt;have HBZ1:=Hm ((HBZ.out.ext (by exact eX)).tch ht1 (by omega));have HT1:=Hm ((HT.out.trans (Tch.of_ext (by exact eX))).trans ht1);have hcv:(convert 23 9 (.slice (some ⟨w1.heap.size,0,none⟩) 1 1)).run Tryz.prog (w1.alloc (.cells #[.int .u8 x] 5))= .ok (.string (strOfNums [x])) (w1.alloc (.cells #[.int .u8 x] 5)):=conv_Sl (fresh_bytes w1 [x] 1 rfl);clear hr1 ht1 hbv1))
      all_goals
       go_wp2
       go_roundg (N - (k+1))
       case measure=>omega
       case rel=>
        have hgB:g<wc.heap.size:=hgc
        refine Hm ⟨k+1,by omega, ?_,(HR1.out.set hgB _ _).ext ((Ext.refl _).alloc _),(HBZ1.out.other _ _ (by simp;omega)).alloc _,(HT1.out.setNew (by omega) _ _).alloc _⟩
        rw [←HA2.out]
        exact (HBV1.out.set 3 (.string A2)).alloc _
     ·obtain rfl:k=N:=by omega
      clear kv fv zv
      have kv:=HBV.out.cell
      rcases HC.out with ⟨hn, -, -,hk0⟩|⟨-,hn3, -, -, -,hk0,he⟩|⟨-,hn2, -,hl,hT,hk⟩
      ·subst hn
       subst hk0
       have hs0:(strOfNums ([]:List Int)).size=0:=rfl
       clear hss hlt
       go_wp2
       go_meet
       case rel=>exact ⟨HRD,HBV,HBZ,HT⟩
      ·subst hk0
       have hE2:(E==0)=false:=by simpa using he
       have HER:=Hm (fun w h=>rerr_any g d ⟨L.drop 0,E⟩ w h)
       simp only at HER
       have hs0:(strOfNums ([]:List Int)).size=0:=rfl
       have hn2:(2:Int)<(n:Int):=by omega
       clear hss hlt he
       go_wp2_with (first
        |(go_at_call 83;refine (HER.out _ HRD.out).mono ?_;rintro e w9 ⟨rfl,rfl⟩))
       go_meet
       case rel=>exact ⟨HRD,HBV,HBZ,HT⟩
      ·have hl2:n - 2≤L.length:=by rw [←hT] at hl;exact hl
       have htl:(L.take k).length=k:=by simp;omega
       rw [htl] at hss
       have hk2:(n:Int)≤(k:Int)+2:=by omega
       clear hlt htl hk hl hT
       go_wp2
       go_meet
       case rel=>exact ⟨HRD,HBV,HBZ,HT⟩
  case rest=>
   clear HR1 HT1 HB1 HTok
   obtain ⟨HR2,HV2,HB2,HT2⟩:=hcut
   obtain ⟨str,hstr⟩:∃A,A=strOfNums (L.take N):=⟨_,rfl⟩
   have hss:str.size≤64:=by rw [hstr,strOfNums_size];exact Nat.le_trans (List.length_take_le _ _) hNL
   unfold textK at H2 H1
   simp only at H2 H1
   rw [←hstr] at H1 H2 HV2
   have kv2:=HV2.out.cell
   have HVR:=Hm (fun w=>vright_any kind 0 0 0 str w (by omega))
   generalize rightV kind 0 ((0:Nat):Int) ((0:Nat):Int) str=R at*
   have HF:=Hm (fun w h=>fail_any g d ⟨L.drop N,E⟩ R w h)
   generalize failS ⟨L.drop N,E⟩ R=S3 at*
   clear hstr hss hok HC HLL HSL
   go_wp2_with (first
    |(go_at_call 148;refine (HVR.out _).mono ?_;rintro e w3 ⟨rfl,hb3⟩;have HR3:=Hm (HR2.out.ext hb3);have HT3:=Hm (HT2.out.trans (Tch.of_ext hb3));have HB3:=Hm (HB2.out.ext hb3);have HV3:=Hm (HV2.out.ext hb3);clear hb3)
    |(go_at_call 53;refine (HF.out _ HR3.out).mono ?_;rintro e w4 ⟨rfl,hr4,ht4⟩;have HR4:=Hm hr4;have HT4:=Hm (HT3.out.trans ht4);have HB4:=Hm (HB3.out.tch ht4 (by omega));have hv4:=HV3.out.tch ht4 (by omega);have kv4:=hv4.cell;clear hr4 ht4 hv4)
    |(go_at_call 115;refine (celof_any kind 0 0 0 str _).mono ?_;rintro e w7 ⟨rfl,hb7⟩;have hT7:=HB4.out.ext hb7;have k7:=hT7.cell;have f7:=hT7.frozen;have z7:=hT7.lt;have HB7:=Hm hT7;have HR7:=Hm (HR4.out.ext hb7);have HT7:Hid (Tch g w w7):=Hm (HT4.out.trans (Tch.of_ext hb7));clear hT7))
   refine bodyPost_ret (v:= .tuple #[(⟨2,⟨kind,0,0,0,str⟩⟩:K).agg, .int .i64 (0:Nat)]) (res_second (Blk.five HB7.out) rfl rfl) rfl ?_
   exact CTPost.mk' ⟨2,⟨kind,0,0,0,str⟩⟩ 0 H2.out (fun he=>(H1.out he).symm) (RD.five HR7.out hg) (Tch.five HT7.out (Nat.le_refl _))
theorem second_any (g d:Nat) (st:RS) (kind:Int) (w:World) (h:RD w g d st):
 Calls Tryz.prog 114 #[.pointer (some ⟨g,0,none⟩), .int .u8 kind] w (CTPost g d w (secondC kind st)):=by
 have hok:st.ok:=by obtain ⟨_,_,_,hok,_⟩:=h;exact hok
 obtain ⟨n,S,hb⟩:∃n S,uintR 66 st=(n,S):=⟨_,_,rfl⟩
 have hSok:S.ok:=by have:=uintR_ok hok 66;rw [hb] at this;exact this
 have hn66:n≤66:=by have:=uintR_le (st:=st) 66;rw [hb] at this;exact this
 by_cases he:S.e=0
 ·have hF:secondC kind st=if n=0 then ((⟨1,V.zero⟩,0),S) else if n=1 then ((fullT kind,(largeR S).1),(largeR S).2) else textK kind (bytesR (n - 2) S):=by
   unfold secondC;rw [hb];simp only;rw [if_neg (by simpa using he)]
  by_cases h0:n=0
  ·subst h0;exact second_same g d st kind w h S hb he
  by_cases h1:n=1
  ·subst h1;exact second_large g d st kind w h S hb he
  rw [if_neg h0,if_neg h1] at hF
  by_cases hl:S.l.length<n - 2
  ·obtain ⟨e,he2,hg⟩:=giveS_nil (x:=1) (by decide) hSok
   have hB:bytesR (n - 2) S=([],giveS S 1):=by unfold bytesR;rw [if_pos hl]
   rw [hB] at hF
   refine second_rest g d st kind w h n S (giveS S 1) 0 hb hn66 (.inr (.inl ⟨he,by omega,hn66,hl,rfl,rfl,by rw [hg];exact he2⟩)) ?_ ?_
   ·rw [hF,hg];rfl
   ·intro _;rw [hF,hg];rfl
  ·have hB:bytesR (n - 2) S=(S.l.take (n - 2),⟨S.l.drop (n - 2),S.e⟩):=by unfold bytesR;rw [if_neg hl]
   rw [hB] at hF
   exact second_rest g d st kind w h n S S (n - 2) hb hn66 (.inr (.inr ⟨he,by omega,hn66,by omega,rfl,rfl⟩)) (by rw [hF]) (fun _=>by rw [hF])
 ·have hF:secondC kind st=((K.zero,0),S):=by unfold secondC;rw [hb];simp only;rw [if_pos he]
  have hS:=gave_form hSok he
  have h0:=uintR_zero hok hb he
  refine second_rest g d st kind w h n S S 0 hb hn66 (.inl ⟨h0,he,rfl,rfl⟩) ?_ ?_
  ·rw [hF,hS];exact (failS_gave he).symm
  ·intro h1;rw [hF] at h1;exact absurd h1 he
end Go.Proofs.YtodbhliidbclcaaGreat
