/-
The event of a payload, in plain words; what is put is taken; cut it is too short.
-/
import Derived.Deep.CutBlock
import Derived.IntWalk
import Derived.Test.YtodbhliidbclcaaGreatP17
set_option maxRecDepth 100000
set_option maxHeartbeats 16000000
namespace Go.Proofs.YtodbhliidbclcaaGreat
open Go.RowKit
structure Pt where
 e:Ev
 hb:List Ho
 ha:List Ho
def Ev.zero:Ev:=⟨0,0,0,0, [], [], [],0⟩
def Pt.zero:Pt:=⟨Ev.zero, [], []⟩
def refR (st:RS):Rf×RS:=(⟨((uintR 4294967295 st).1:Nat),((uintR 4294967295 (uintR 4294967295 st).2).1:Nat)⟩,(uintR 4294967295 (uintR 4294967295 st).2).2)
def refsR (st:RS):Nat→List Rf×RS
 |0=>([],st)
 |k+1=>((refsR st k).1++ [(refR (refsR st k).2).1],(refR (refsR st k).2).2)
theorem refsR_len (st:RS):∀k,(refsR st k).1.length=k
 |0=>rfl
 |k+1=>by unfold refsR;simp [refsR_len st k]
def truncR (st:RS):Pt×RS:=(⟨⟨7,0,0,0, [], [],(refsR (uintR 8 (byteR st).2).2 (uintR 8 (byteR st).2).1).1,(byteR st).1⟩, [], []⟩,(refsR (uintR 8 (byteR st).2).2 (uintR 8 (byteR st).2).1).2)
def oldR (kind:Int) (st:RS):Int×RS:=if kind=4 then (0,st) else byteR st
def capR (old:Int) (st:RS):RS:=if 2<old then giveS st 14 else st
def befR (r:Rl) (ver old:Int) (st:RS):(List K×List Ho)×RS:=if old=0 then (([], []),st) else takeT r ver st
def aftR (r:Rl) (ver kind:Int) (st:RS):(List K×List Ho)×RS:=if kind=6 then (([], []),st) else takeT r ver st
def rowR (kind ver:Int) (a:Rf) (r:Rl) (st:RS):Pt×RS:=
 let o:=oldR kind st
 let b:=befR r ver o.1 (capR o.1 o.2)
 let c:=aftR r ver kind b.2
 (⟨⟨kind,a.o,a.v,o.1,b.1.1,c.1.1, [],0⟩,b.1.2,c.1.2⟩,c.2)
def rowsR (kind:Int) (l:List Rl) (ver:Int) (st:RS):Pt×RS:=
 match getR (refR st).1.o (refR st).1.v l with
 |none=>(⟨⟨kind,(refR st).1.o,(refR st).1.v,0, [], [], [],0⟩, [], []⟩,giveS (refR st).2 10)
 |some r=>rowR kind ver (refR st).1 r (refR st).2
def bodyE (kind:Int) (l:List Rl) (ver:Int) (st:RS):Pt×RS:=if kind=7 then truncR st else rowsR kind l ver st
def takeEE (l:List Rl) (kind:Int) (b:List Int) (ver:Int):Int:=if kind<4∨7<kind then 7 else if ver=1∨ver=2 then endE (bodyE kind l ver ⟨b,0⟩).2 else 18
def takeEP (l:List Rl) (kind:Int) (b:List Int) (ver:Int):Pt:=if takeEE l kind b ver=0 then (bodyE kind l ver ⟨b,0⟩).1 else Pt.zero
theorem conv_part {w:World} {g d:Nat} {a:Option Addr} {L:List Int} {len cap i n:Nat} (h:SB w g d (.slice a len cap) L) (hi:i+n≤L.length) (a' :Option Addr) (cap' :Nat)
 (ha:n=0∨∀b o,a=some ⟨b,o,none⟩→a' =some ⟨b,o+i,none⟩):(convert 23 9 (.slice a' n cap')).run Tryz.prog w= .ok (.string (strOfNums ((L.drop i).take n))) w:=by
 refine conv_Sl ⟨a',cap',by simp;omega, ?_⟩
 rcases Nat.eq_zero_or_pos n with hz|hz
 ·subst hz;exact .inl rfl
 ·obtain ⟨a0,c,hv, -, -,hs⟩:=h
  simp only [Value.slice.injEq] at hv
  obtain ⟨rfl, -, -⟩:=hv
  rcases hs with hs|⟨b,o,hab,hb, -,hc⟩
  ·subst hs;simp at hi;omega
  ·rcases ha with ha|ha
   ·omega
   ·refine .inr ⟨b,o+i,ha b o hab,hb,fun k hk j hj=> ?_⟩
    obtain rfl:j=0:=by omega
    simp only [List.length_map,List.length_take,List.length_drop] at hk
    rw [Nat.mul_one,Nat.add_zero,Nat.add_assoc,hc (i+k) (by omega)]
    have h1:i+k<L.length:=by omega
    simp [bcell,List.getD,List.getElem?_map,List.getElem?_eq_getElem h1,show k<n by omega]
theorem fbytes0_any (g d:Nat) (st:RS) (w:World) (h:RF w g d st):
 Calls Tryz.prog 55 #[.pointer (some ⟨g,0,none⟩), .int .u64 0] w (FPost g d w (.string (strOfNums [])) st):=by
 have H:=Hm h
 have HLF:=Hm (fun w h=>fleft_any g d st w h)
 obtain ⟨v,L,a,hb,⟨ad,cap,rfl,hlc,hnc,hs⟩,hat,hl,hB,hlen⟩:=h
 have hc:=hb.cell
 have hf:=hb.frozen
 have hlt:=hb.lt
 have HB:=Hm hb
 have hll:st.l.length≤1000000:=by rw [hl];split<;>simp<;>omega
 have HS:Hid (SB w g d (.slice ad L.length cap) L):=Hm ⟨ad,cap,rfl,hlc,hnc,hs⟩
 have HEND:Hid (∀q k,FPost g d w (.string (strOfNums [])) st (.returned (.string (strOfNums []))) (((w.drewN q).setCell ⟨g,1,none⟩ (.int .i64 (a:Int))).drewN k)):=Hm (fun q k=>by
  have ht:Tch g w ((w.drewN q).setCell ⟨g,1,none⟩ (.int .i64 (a:Int))):=(Tch.of_ext ((Ext.refl w).drewN q)).trans ((Tch.refl g _).set 1 _)
  refine ⟨rfl,RF.drewN ⟨_,L,a,by have h:=(HB.out.drewN q).set 1 (.int .i64 (a:Int));simpa using h,HS.out.tch ht (.inr (Nat.le_refl _)),hat,hl,hB,hlen⟩ k,ht.drewN k⟩)
 have HC2:Hid (∀q,((w.drewN q).setCell ⟨g,1,none⟩ (.int .i64 (a:Int))).cell? ⟨g,0,none⟩=some (.slice ad L.length cap)∧((w.drewN q).setCell ⟨g,1,none⟩ (.int .i64 (a:Int))).cell? ⟨g,1,none⟩=some (.int .i64 (a:Int))):=Hm (fun q=>⟨((HB.out.drewN q).set 1 (.int .i64 (a:Int))).cell 0,((HB.out.drewN q).set 1 (.int .i64 (a:Int))).cell 1⟩)
 have hcv:∀(a' :Option Addr) (cap' :Nat) (w:World),(convert 23 9 (.slice a' 0 cap')).run Tryz.prog w= .ok (.string (strOfNums [])) w:=fun a' cap' w=>conv_Sl (l:= []) ⟨a',cap',rfl, .inl rfl⟩
 clear hb hl hB hs
 by_cases hca:cap=a
 ·subst hca
  go_enter Tryz.func55,Tryz.ntmps55
  go_upto_region 5 with (go_at_call 56;refine (HLF.out _ H.out).mono ?_;rintro e w1 ⟨rfl,q1,rfl⟩)
  obtain ⟨hg0,hg1⟩:=HC2.out q1
  obtain ⟨W2,hW2⟩:∃W2:World,W2=(w.drewN q1).setCell ⟨g,1,none⟩ (.int .i64 (cap:Int)):=⟨_,rfl⟩
  have HE:=HEND.out q1
  rw [←hW2] at hg0 hg1 HE⊢
  have HEE:=Hm HE
  clear hW2 HE
  go_quiet (fail)
  go_wp2
  go_ret
  exact HEE.out nq
 ·cases ad with
  |none=>have:=hnc rfl;omega
  |some ad=>
   clear hnc
   go_enter Tryz.func55,Tryz.ntmps55
   go_upto_region 5 with (go_at_call 56;refine (HLF.out _ H.out).mono ?_;rintro e w1 ⟨rfl,q1,rfl⟩)
   obtain ⟨hg0,hg1⟩:=HC2.out q1
   obtain ⟨W2,hW2⟩:∃W2:World,W2=(w.drewN q1).setCell ⟨g,1,none⟩ (.int .i64 (a:Int)):=⟨_,rfl⟩
   have HE:=HEND.out q1
   rw [←hW2] at hg0 hg1 HE⊢
   have HEE:=Hm HE
   clear hW2 HE
   go_quiet (fail)
   go_wp2
   go_ret
   exact HEE.out nq
theorem fbytes_any (g d:Nat) (st:RS) (n:Nat) (w:World) (h:RF w g d st) (hn:n<18446744073709551616):
 Calls Tryz.prog 55 #[.pointer (some ⟨g,0,none⟩), .int .u64 n] w (FPost g d w (.string (strOfNums (bytesR n st).1)) (bytesR n st).2):=by
 rcases Nat.eq_zero_or_pos n with hz|hpos
 ·subst hz
  have e:bytesR 0 st=([],st):=by unfold bytesR;rw [if_neg (by omega)];rfl
  rw [e]
  exact fbytes0_any g d st w h
 have H:=Hm h
 have HLF:=Hm (fun w h=>fleft_any g d st w h)
 obtain ⟨v,L,a,hb,⟨ad,cap,rfl,hlc,hnc,hs⟩,hat,hl,hB,hlen⟩:=h
 have hc:=hb.cell
 have hf:=hb.frozen
 have hlt:=hb.lt
 have HB:=Hm hb
 have HS:Hid (SB w g d (.slice ad L.length cap) L):=Hm ⟨ad,cap,rfl,hlc,hnc,hs⟩
 have hll:st.l.length≤1000000:=by rw [hl];split<;>simp<;>omega
 clear hb
 by_cases hk:st.l.length<n
 ·have hE:Hid (bytesR n st=([],giveS st 1)):=Hm (by unfold bytesR;rw [if_pos hk])
  have HG:=Hm (fun w h=>fgive_any g d st 1 w h (by decide))
  clear hs hlc hnc hl
  go_enter Tryz.func55,Tryz.ntmps55
  go_wp2_with (first
   |(go_at_call 56;refine (HLF.out _ H.out).mono ?_;rintro e w1 ⟨rfl,q1,rfl⟩)
   |(go_at_call 30;refine (HG.out _ (H.out.drewN q1)).mono ?_;rintro e w2 ⟨rfl,hr,ht⟩;have HR:=Hm hr;have HT:=Hm ht;clear hr ht))
  go_ret
  exact ⟨by rw [hE.out];rfl,by rw [hE.out];exact HR.out,(Tch.of_ext ((Ext.refl w).drewN q1)).trans HT.out⟩
 ·have hE:Hid (bytesR n st=(st.l.take n,⟨st.l.drop n,st.e⟩)):=Hm (by unfold bytesR;rw [if_neg hk])
  have hkn:n≤st.l.length:=by omega
  clear hk
  by_cases he:st.e=0
  ·have hl2:st.l=L.drop a:=by rw [hl,if_pos he]
   have hal:a+n≤L.length:=by rw [hl2,List.length_drop] at hkn;omega
   have HL2:=Hm hl2
   have HE:=Hm he
   clear hl hl2 hs he
   have HLE:Hid (L.drop a=st.l):=Hm HL2.out.symm
   rw [HE.out] at hc HB
   have hBD:=hB
   have HBI:=Hm hB
   have HLEN:=Hm hlen
   have hal' :(a:Int)+n≤1000000:=by omega
   clear hB hBD
   obtain ⟨W2,hW2⟩:∃W2:Nat→World,∀q,W2 q=(w.drewN q).setCell ⟨g,1,none⟩ (.int .i64 ((a:Int)+(n:Int))):=⟨_,fun _=>rfl⟩
   have HW2:=Hm hW2
   have HT2:Hid (∀q,Tch g w (W2 q)):=Hm (fun q=>by rw [HW2.out];exact (Tch.of_ext ((Ext.refl w).drewN q)).trans ((Tch.refl g _).set 1 _))
   have HB2:Hid (∀q,Blk (W2 q) g #[.slice ad L.length cap, .int .i64 ((a+n:Nat):Int), .int .i64 0] 91):=Hm (fun q=>by rw [HW2.out];have h:=(HB.out.drewN q).set 1 (.int .i64 ((a:Int)+(n:Int)));simpa using h)
   have HS2:Hid (∀q,SB (W2 q) g d (.slice ad L.length cap) L):=Hm (fun q=>HS.out.tch (HT2.out q) (.inr (Nat.le_refl _)))
   have HCV:Hid (∀(a' :Option Addr) (cap' :Nat),(n=0∨∀b o,ad=some ⟨b,o,none⟩→a' =some ⟨b,o+a,none⟩)→∀q k,(convert 23 9 (.slice a' n cap')).run Tryz.prog ((W2 q).drewN k)= .ok (.string (strOfNums (st.l.take n))) ((W2 q).drewN k)):=Hm (fun a' cap' ha q k=>by
    have h:=conv_part (g:=g) (d:=d) (i:=a) (n:=n) ((HS2.out q).ext ((Ext.refl _).drewN k)) hal a' cap' ha
    rw [HLE.out] at h;exact h)
   have HEND:Hid (∀q k,FPost g d w (.string (strOfNums (bytesR n st).1)) (bytesR n st).2 (.returned (.string (strOfNums (st.l.take n)))) ((W2 q).drewN k)):=Hm (fun q k=>by
    rw [hE.out]
    refine ⟨rfl,RF.drewN ⟨_,L,a+n,by rw [HE.out];exact HB2.out q,HS2.out q,hal, ?_,HBI.out,HLEN.out⟩ k,(HT2.out q).drewN k⟩
    show st.l.drop n=_
    rw [if_pos HE.out,←HLE.out,List.drop_drop])
   have hc2:∀q,(W2 q).cell? ⟨g,0,none⟩=some (.slice ad L.length cap)∧(W2 q).cell? ⟨g,1,none⟩=some (.int .i64 ((a:Int)+(n:Int))):=fun q=>⟨(HB2.out q).cell 0,by rw [(HB2.out q).cell 1];simp⟩
   have HC2:=Hm hc2
   clear hW2 hc2
   rcases HS.out with ⟨ad',cap',hv, -, -,hs⟩
   simp only [Value.slice.injEq] at hv
   obtain ⟨rfl, -,rfl⟩:=hv
   have hca: ¬ cap=a:=by omega
   rcases hs with hs|⟨b,o,rfl, -, -, -⟩
   ·rw [hs] at hal;simp at hal;omega
   ·go_enter Tryz.func55,Tryz.ntmps55
    go_upto_region 5 with (go_at_call 56;refine (HLF.out _ H.out).mono ?_;rintro e w1 ⟨rfl,q1,rfl⟩)
    rw [←HW2.out q1]
    obtain ⟨hg0,hg1⟩:=HC2.out q1
    have hcv:=HCV.out (some ⟨b,o+a,none⟩) (cap - a) (.inr (fun b' o' h=>by cases h;rfl)) q1
    go_quiet (fail)
    go_wp2
    go_ret
    exact HEND.out q1 nq
  ·have hl0:st.l= []:=by rw [hl,if_neg he]
   rw [hl0] at hkn
   simp at hkn
   omega
theorem valL_drop_le:∀(k:Nat) (l:List Int),valL (l.drop k)≤valL l:=by
 intro k
 induction k with
 |zero=>intro l;simp
 |succ k ih=>
  intro l
  cases l with
  |nil=>simp
  |cons x l=>rw [List.drop_succ_cons,valL];have:=ih l;omega
theorem quiet_of2 {P:Program} {f:FuncId} {args:Array Value} {w:World} {q n:Nat} {v:Value}
 (h:Calls P f args (w.drewN (q+n)) fun e w' =>e= .returned v∧∃m,w' =(w.drewN (q+n)).drewN m):Calls P f args (w.drewN (q+n)) fun e w'' =>e= .returned v∧∃m,w'' =w.drewN (q+m):=
 h.mono fun _ _ ⟨he,m,hm⟩=>⟨he,n+m,by rw [hm,World.drewN_drewN,Nat.add_assoc]⟩
def U2 (l:List Int) (n:Nat) (w:World) (v i:Value) (wr:World):Prop:=∃j q:Nat,j≤n+1∧i= .int .i64 ((j:Int) - 1)∧v= .int .u64 (valL ((l.take (n+1)).drop j))∧wr=w.drewN q
def UExit (l:List Int) (n:Nat):Prop:=n=10∨n=l.length∨(n<l.length∧l.getD n 0<128)
def ULoop (l:List Int) (w:World) (i:Value) (wr:World):Prop:=∃n q:Nat,n≤10∧n≤l.length∧i= .int .i64 n∧wr=w.drewN q∧∀i,i<n→128≤l.getD i 0
def UCut (l:List Int) (w:World) (i:Value) (wr:World):Prop:=∃n q:Nat,n≤10∧n≤l.length∧i= .int .i64 n∧wr=w.drewN q∧(∀i,i<n→128≤l.getD i 0)∧UExit l n
theorem fuint_any (g d:Nat) (st:RS) (m:Nat) (w:World) (h:RF w g d st) (_hm:m<18446744073709551616):
 Calls Tryz.prog 27 #[.pointer (some ⟨g,0,none⟩), .int .u64 m] w (FPost g d w (.int .u64 (uintR m st).1) (uintR m st).2):=by
 have H:=Hm h
 have HLF:=Hm (fun w h=>fleft_any g d st w h)
 have hok:=h.ok
 obtain ⟨v,L,a,hb,⟨ad,cap,rfl,hlc,hnc,hs⟩,hat,hl,hB,hlen⟩:=h
 have hc:=hb.cell
 have hf:=hb.frozen
 have hlt:=hb.lt
 have HB:=Hm hb
 have HS:Hid (SB w g d (.slice ad L.length cap) L):=Hm ⟨ad,cap,rfl,hlc,hnc,hs⟩
 have hll:st.l.length≤1000000:=by rw [hl];split<;>simp<;>omega
 have HCX:Hid (∀n,n<st.l.length→a+n<L.length∧∃b o,ad=some ⟨b,o,none⟩∧w.cell? ⟨b,o+(a+n),none⟩=some (.int .u8 (st.l.getD n 0))∧0≤st.l.getD n 0∧st.l.getD n 0<256):=Hm (fun n hn=>by
  have he:st.e=0:=Classical.byContradiction fun he=>by rw [hl,if_neg he] at hn;simp at hn
  have hl2:st.l=L.drop a:=by rw [hl,if_pos he]
  have hn2:a+n<L.length:=by rw [hl2,List.length_drop] at hn;omega
  refine ⟨hn2, ?_⟩
  rcases hs with hs|⟨b,o,hab,hbb,hd,hcc⟩
  ·rw [hs] at hn2;simp at hn2
  ·have hx:=hok.2 (st.l.getD n 0) (by rw [List.getD_eq_getElem?_getD,List.getElem?_eq_getElem hn];exact List.getElem_mem hn)
   refine ⟨b,o,hab, ?_,hx⟩
   rw [hcc _ hn2]
   congr 2
   rw [hl2];simp [List.getD])
 have HOK:=Hm hok
 have HLL:=Hm hl
 have HBI:=Hm hB
 have HLEN:=Hm hlen
 have HLC:=Hm hlc
 clear hb hs hl hB hok hlc hnc hlen
 go_enter Tryz.func27,Tryz.ntmps27
 go_upto_block 0 with (fail)
 go_cut [5] (fun i wx=>Hid (UCut st.l w i wx))
 case first=>
  as_aux_lemma=>
   go_wp2
   go_loopw [5] (fun i wr=>ULoop st.l w i wr) (fun i _=>10 - (intOf i).toNat)
   case atStart=>exact ⟨0,0,by omega,Nat.zero_le _,rfl,rfl,fun i h=>by omega⟩
   case round=>
    obtain ⟨n,q,hn10,hnl,rfl,rfl,hb⟩:=hrel
    have HBB:=Hm hb
    clear hb
    by_cases h10:n<10
    ·by_cases hlt2:n<st.l.length
     ·obtain ⟨han,b,o,rfl,hx,hx0,hx1⟩:=HCX.out n hlt2
      have han' :=HLC.out
      obtain ⟨x,hxx⟩:∃x,x=st.l.getD n 0:=⟨_,rfl⟩
      rw [←hxx] at hx hx0 hx1
      have HXX:=Hm hxx
      clear hxx
      by_cases h128:127<x
      ·have t1:(n:Int)<10:=by omega
       have t2:(n:Int)<(st.l.length:Int):=by omega
       have t3:(0:Int)≤(a:Int)+(n:Int):=by omega
       have t4:(a:Int)+(n:Int)<(L.length:Int):=by omega
       have t5:((a:Int)+(n:Int)).toNat=a+n:=by omega
       have t6:IntKind.i64.wrap ((a:Int)+(n:Int))=(a:Int)+(n:Int):=IntWalk.i64_in _ (by have:=HLEN.out;omega)
       go_wp2
       go_quiet ((go_at_call 56;refine quiet_of2 (HLF.out _ (H.out.drewN _))))
       clear t1 t2 t3 t4 t5 t6
       go_wp2
       go_roundw
       case rel=>
        refine ⟨n+1,q+nq,by omega,by omega,by go_num,by first|rfl|rw [World.drewN_drewN],fun i hi=> ?_⟩
        by_cases hin:i=n
        ·subst hin;rw [←HXX.out];omega
        ·exact HBB.out i (by omega)
       case measure=>simp [intOf];omega
      ·have h128' :x≤127:=by omega
       have d3:decide (127<x)=false:=by simpa using h128
       clear h128
       have t1:(n:Int)<10:=by omega
       have t2:(n:Int)<(st.l.length:Int):=by omega
       have t3:(0:Int)≤(a:Int)+(n:Int):=by omega
       have t4:(a:Int)+(n:Int)<(L.length:Int):=by omega
       have t5:((a:Int)+(n:Int)).toNat=a+n:=by omega
       have t6:IntKind.i64.wrap ((a:Int)+(n:Int))=(a:Int)+(n:Int):=IntWalk.i64_in _ (by have:=HLEN.out;omega)
       go_wp2
       go_quiet ((go_at_call 56;refine quiet_of2 (HLF.out _ (H.out.drewN _))))
       clear t1 t2 t3 t4 t5 t6
       go_wp2
       go_meet
       case rel=>exact ⟨n,q+nq,hn10,hnl,rfl,by first|rfl|rw [World.drewN_drewN],HBB.out, .inr (.inr ⟨hlt2,by rw [←HXX.out];omega⟩)⟩
     ·have hne:n=st.l.length:=by omega
      have d2:decide (n<st.l.length)=false:=by simp;omega
      have t1:(n:Int)<10:=by omega
      have HNE:=Hm hne
      clear hne hlt2
      go_wp2
      go_quiet ((go_at_call 56;refine quiet_of2 (HLF.out _ (H.out.drewN _))))
      clear d2
      go_wp2
      go_meet
      case rel=>exact ⟨n,q+nq,hn10,hnl,rfl,by first|rfl|rw [World.drewN_drewN],HBB.out, .inr (.inl HNE.out)⟩
    ·obtain rfl:n=10:=by omega
     clear h10
     go_wp2
     go_quiet ((go_at_call 56;refine quiet_of2 (HLF.out _ (H.out.drewN _))))
     go_wp2
     go_meet
     case rel=>exact ⟨10,q+nq,hn10,hnl,rfl,by first|rfl|rw [World.drewN_drewN],HBB.out, .inl rfl⟩
 case rest=>
  obtain ⟨n,q,hn10,hnl,rfl,rfl,hbb,hex⟩:=hcut.out
  have HBB:=Hm hbb
  clear hcut hbb
  by_cases h10:n=10
  ·subst h10
   have hE:Hid (uintR m st=(0,giveS st 5)):=Hm (by
    unfold uintR;simp only [digs_ten st.l hnl HBB.out];rfl)
   have HG:=Hm (fun w h=>fgive_any g d st 5 w h (by decide))
   clear hex
   go_wp2
   go_quiet ((go_at_call 56;refine quiet_of2 (HLF.out _ (H.out.drewN _))))
   go_wp2_with (go_at_call 30;refine (HG.out _ ((H.out.drewN _))).mono ?_;rintro e w2 ⟨rfl,hr,ht⟩;have HR:=Hm hr;have HT:=Hm ht;clear hr ht)
   go_ret
   exact ⟨by rw [hE.out];rfl,by rw [hE.out];exact HR.out,(Tch.of_ext ((Ext.refl w).drewN _)).trans HT.out⟩
  ·have hn9:n≤9:=by omega
   by_cases hlt2:n<st.l.length
   ·obtain ⟨han,b,o,rfl,hx,hx0,hx1⟩:=HCX.out n hlt2
    have hx128:st.l.getD n 0<128:=by rcases hex with h|h|h<;>omega
    have hdig:=digs_at st.l n hlt2 hn9 HBB.out hx128
    have hvm:=digs_lt st.l 0 0 HOK.out.2 (by omega) (by decide)
    obtain ⟨x,hxx⟩:∃x,x=st.l.getD n 0:=⟨_,rfl⟩
    rw [←hxx] at hx hx0 hx1 hx128 hdig
    have HXX:=Hm hxx
    have hlc:=HLC.out
    have d3:((n:Int)==10)=false:=by simp;omega
    have d6:decide (st.l.length≤n)=false:=by simp;omega
    have d7:(n:Int)<(st.l.length:Int):=by omega
    clear hxx hex
    by_cases c1:n=9∧1<x
    ·rw [if_pos c1] at hdig
     have hE:Hid (uintR m st=(0,giveS st 5)):=Hm (by unfold uintR;simp only [hdig];rfl)
     have HG:=Hm (fun w h=>fgive_any g d st 5 w h (by decide))
     obtain ⟨hn,hx2⟩:=c1
     have d5:((n:Int)==9)=true:=by simp;omega
     clear hdig hvm hn
     have t1:(n:Int)<(st.l.length:Int):=by omega
     have t2:n<st.l.length:=by omega
     have t3:(0:Int)≤(a:Int)+(n:Int):=by omega
     have t4:(a:Int)+(n:Int)<(L.length:Int):=by omega
     have t5:((a:Int)+(n:Int)).toNat=a+n:=by omega
     have t6:IntKind.i64.wrap ((a:Int)+(n:Int))=(a:Int)+(n:Int):=IntWalk.i64_in _ (by have:=HLEN.out;omega)
     go_wp2
     go_quiet ((go_at_call 56;refine quiet_of2 (HLF.out _ (H.out.drewN _))))
     clear t1 t2 t3 t4 t5 t6
     go_wp2_with (go_at_call 30;refine (HG.out _ ((H.out.drewN _))).mono ?_;rintro e w2 ⟨rfl,hr,ht⟩;have HR:=Hm hr;have HT:=Hm ht;clear hr ht)
     go_ret
     exact ⟨by rw [hE.out];rfl,by rw [hE.out];exact HR.out,(Tch.of_ext ((Ext.refl w).drewN _)).trans HT.out⟩
    ·rw [if_neg c1] at hdig
     by_cases c2:1≤n∧x=0
     ·rw [if_pos c2] at hdig
      have hE:Hid (uintR m st=(0,giveS st 5)):=Hm (by unfold uintR;simp only [hdig];rfl)
      have HG:=Hm (fun w h=>fgive_any g d st 5 w h (by decide))
      obtain ⟨hn1,rfl⟩:=c2
      have hn1' :(0:Int)<(n:Int):=by omega
      have hn0n:0<n:=by omega
      clear hdig hvm c1
      by_cases h9:n=9
      ·have d5:((n:Int)==9)=true:=by simp;omega
       clear h9
       have t1:(n:Int)<(st.l.length:Int):=by omega
       have t2:n<st.l.length:=by omega
       have t3:(0:Int)≤(a:Int)+(n:Int):=by omega
       have t4:(a:Int)+(n:Int)<(L.length:Int):=by omega
       have t5:((a:Int)+(n:Int)).toNat=a+n:=by omega
       have t6:IntKind.i64.wrap ((a:Int)+(n:Int))=(a:Int)+(n:Int):=IntWalk.i64_in _ (by have:=HLEN.out;omega)
       go_wp2
       go_quiet ((go_at_call 56;refine quiet_of2 (HLF.out _ (H.out.drewN _))))
       go_wp2_with (go_at_call 56;refine (HLF.out _ (H.out.drewN _)).mono ?_;rintro e w1 ⟨rfl,q1,rfl⟩)
       go_quiet (fail)
       clear t1 t2 t3 t4 t5 t6
       go_wp2_with (go_at_call 30;refine (HG.out _ ((H.out.drewN _))).mono ?_;rintro e w2 ⟨rfl,hr,ht⟩;have HR:=Hm hr;have HT:=Hm ht;clear hr ht)
       go_ret
       exact ⟨by rw [hE.out];rfl,by rw [hE.out];exact HR.out,(Tch.of_ext ((Ext.refl w).drewN _)).trans HT.out⟩
      ·have d5:((n:Int)==9)=false:=by simp;omega
       clear h9
       have t1:(n:Int)<(st.l.length:Int):=by omega
       have t2:n<st.l.length:=by omega
       have t3:(0:Int)≤(a:Int)+(n:Int):=by omega
       have t4:(a:Int)+(n:Int)<(L.length:Int):=by omega
       have t5:((a:Int)+(n:Int)).toNat=a+n:=by omega
       have t6:IntKind.i64.wrap ((a:Int)+(n:Int))=(a:Int)+(n:Int):=IntWalk.i64_in _ (by have:=HLEN.out;omega)
       go_wp2
       go_quiet ((go_at_call 56;refine quiet_of2 (HLF.out _ (H.out.drewN _))))
       go_wp2_with (go_at_call 56;refine (HLF.out _ (H.out.drewN _)).mono ?_;rintro e w1 ⟨rfl,q1,rfl⟩)
       go_quiet (fail)
       clear t1 t2 t3 t4 t5 t6
       go_wp2_with (go_at_call 30;refine (HG.out _ ((H.out.drewN _))).mono ?_;rintro e w2 ⟨rfl,hr,ht⟩;have HR:=Hm hr;have HT:=Hm ht;clear hr ht)
       go_ret
       exact ⟨by rw [hE.out];rfl,by rw [hE.out];exact HR.out,(Tch.of_ext ((Ext.refl w).drewN _)).trans HT.out⟩
     ·rw [if_neg c2] at hdig
      rw [hdig] at hvm
      have HDG:=Hm hdig
      have HVM:=Hm hvm
      clear hdig hvm
      have HLT2:=Hm hlt2
      by_cases h9:n=9
      ·have d5:((n:Int)==9)=true:=by simp;omega
       have hx2:x≤1:=by omega
       have hx3:(x==0)=false:=by simp;omega
       have hx4:decide (1<x)=false:=by simp;omega
       have hn1' :(0:Int)<(n:Int):=by omega
       have hn0n:0<n:=by omega
       clear h9 c1 c2
       have t1:(n:Int)<(st.l.length:Int):=by omega
       have t2:n<st.l.length:=by omega
       have t3:(0:Int)≤(a:Int)+(n:Int):=by omega
       have t4:(a:Int)+(n:Int)<(L.length:Int):=by omega
       have t5:((a:Int)+(n:Int)).toNat=a+n:=by omega
       have t6:IntKind.i64.wrap ((a:Int)+(n:Int))=(a:Int)+(n:Int):=IntWalk.i64_in _ (by have:=HLEN.out;omega)
       go_wp2
       go_quiet ((go_at_call 56;refine quiet_of2 (HLF.out _ (H.out.drewN _))))
       go_wp2_with (go_at_call 56;refine (HLF.out _ (H.out.drewN _)).mono ?_;rintro e w1 ⟨rfl,q1,rfl⟩)
       go_quiet (fail)
       clear t1 t2 t3 t4 t5 t6 d3 d5 d6 hx3 hx4
       go_wp2
       go_loopw [6,7] (fun v i wr=>U2 st.l n w v i wr) (fun _ i _=>(intOf i+1).toNat)
       case atStart=>exact ⟨n+1,_,Nat.le_refl _,by congr 1;omega,by rw [List.drop_eq_nil_of_le (by simp;omega)];rfl,by first|rfl|rw [World.drewN_drewN]⟩
       case round=>
        obtain ⟨j,q2,hj,rfl,rfl,rfl⟩:=hrel
        cases j with
        |succ k=>
         obtain ⟨hak,bk,ok,hab,hxk,hk0,hk1⟩:=HCX.out k (by omega)
         simp only [Option.some.injEq,Addr.mk.injEq,and_true] at hab
         obtain ⟨rfl,rfl⟩:=hab
         have e:(((k+1:Nat):Int) - 1)=(k:Int):=by omega
         rw [e]
         clear e
         have hd:(st.l.take (n+1)).drop k=st.l.getD k 0::(st.l.take (n+1)).drop (k+1):=by
          have h1:k<(st.l.take (n+1)).length:=by simp;omega
          rw [List.drop_eq_getElem_cons h1]
          congr 1
          have h2:k<st.l.length:=by omega
          simp [List.getD,List.getElem?_eq_getElem h2]
         have hle:=valL_drop_le k (st.l.take (n+1))
         have hM:=HVM.out
         generalize st.l.getD k 0=z at*
         have HN:Hid ((valL ((st.l.take (n+1)).drop k):Int)=128*(valL ((st.l.take (n+1)).drop (k+1)):Int)+z%128):=Hm (by rw [hd,valL];push_cast;omega)
         have hbd:128*(valL ((st.l.take (n+1)).drop (k+1)):Int)+z%128<18446744073709551616:=by rw [←HN.out];omega
         generalize valL ((st.l.take (n+1)).drop (k+1))=vv at*
         clear hle hM hd
         have s3:(0:Int)≤(a:Int)+(k:Int):=by omega
         have s4:(a:Int)+(k:Int)<(L.length:Int):=by omega
         have s7:(128:Int)*(vv:Int)<18446744073709551616:=by omega
         have s8:IntKind.u64.wrap (128*(vv:Int))=128*(vv:Int):=by rw [u64_wrap'];omega
         have s9:IntKind.u64.wrap (128*(vv:Int)+z%128)=128*(vv:Int)+z%128:=by rw [u64_wrap'];omega
         have s5:((a:Int)+(k:Int)).toNat=a+k:=by omega
         have s6:IntKind.i64.wrap ((a:Int)+(k:Int))=(a:Int)+(k:Int):=IntWalk.i64_in _ (by have:=HLEN.out;omega)
         go_wp2
         go_quiet (fail)
         clear s3 s4 s5 s6 s7 s8 s9
         go_wp2
         go_roundw
         case rel=>exact ⟨k,q2+nq,by omega,by first|rfl|(congr 1;omega),by rw [HN.out],by first|rfl|rw [World.drewN_drewN]⟩
         case measure=>simp [intOf]
        |zero=>
         have e:(((0:Nat):Int) - 1)= -1:=by omega
         rw [e]
         clear e
         simp only [List.drop_zero]
         have hM:=HVM.out
         generalize valL (st.l.take (n+1))=vv at*
         have hb1:(a:Int)+(n:Int)+1≤2000000:=by have:=HLEN.out;omega
         by_cases hgt:m<vv
         ·have hE:Hid (uintR m st=(0,giveS st 4)):=Hm (by unfold uintR;simp only [HDG.out];rw [if_neg (by simp),if_pos hgt])
          have HG:=Hm (fun w h=>fgive_any g d st 4 w h (by decide))
          have hgt' :(m:Int)<(vv:Int):=by omega
          go_wp2_with (go_at_call 30;refine (HG.out _ ((H.out.drewN _))).mono ?_;rintro e w2 ⟨rfl,hr,ht⟩;have HR:=Hm hr;have HT:=Hm ht;clear hr ht)
          go_ret
          exact ⟨by rw [hE.out];rfl,by rw [hE.out];exact HR.out,(Tch.of_ext ((Ext.refl w).drewN _)).trans HT.out⟩
         ·have hE:Hid (uintR m st=(vv,⟨st.l.drop (n+1),st.e⟩)):=Hm (by unfold uintR;simp only [HDG.out];rw [if_neg (by simp),if_neg hgt])
          have hgt' :(vv:Int)≤(m:Int):=by omega
          go_wp2
          go_ret
          have hT:Tch g w ((w.drewN q2).setCell ⟨g,1,none⟩ (.int .i64 ((a:Int)+(n:Int)+1))):=(Tch.of_ext ((Ext.refl w).drewN q2)).trans ((Tch.refl g _).set 1 _)
          refine ⟨by rw [hE.out];rfl, ?_,hT⟩
          rw [hE.out]
          have he:st.e=0:=Classical.byContradiction fun he=>by have h:=HLL.out;rw [if_neg he] at h;rw [h] at hlt2;simp at hlt2
          have hlL:st.l=L.drop a:=by have h:=HLL.out;rw [if_pos he] at h;exact h
          refine ⟨_,L,a+n+1,by have h:=(HB.out.drewN q2).set 1 (.int .i64 ((a:Int)+(n:Int)+1));simpa using h,HS.out.tch hT (.inr (Nat.le_refl _)),by omega, ?_,HBI.out,HLEN.out⟩
          show st.l.drop (n+1)=if st.e=0 then _ else _
          rw [if_pos he,hlL,List.drop_drop,Nat.add_assoc]
      ·have d5:((n:Int)==9)=false:=by simp;omega
       by_cases h0:n=0
       ·have d8:decide ((0:Int)<(n:Int))=false:=by simp;omega
        have d9:decide (0<n)=false:=by simp;omega
        clear h9 c1 c2 h0
        have t1:(n:Int)<(st.l.length:Int):=by omega
        have t2:n<st.l.length:=by omega
        have t3:(0:Int)≤(a:Int)+(n:Int):=by omega
        have t4:(a:Int)+(n:Int)<(L.length:Int):=by omega
        have t5:((a:Int)+(n:Int)).toNat=a+n:=by omega
        have t6:IntKind.i64.wrap ((a:Int)+(n:Int))=(a:Int)+(n:Int):=IntWalk.i64_in _ (by have:=HLEN.out;omega)
        go_wp2
        go_quiet ((go_at_call 56;refine quiet_of2 (HLF.out _ (H.out.drewN _))))
        go_wp2_with (go_at_call 56;refine (HLF.out _ (H.out.drewN _)).mono ?_;rintro e w1 ⟨rfl,q1,rfl⟩)
        go_quiet (fail)
        clear t1 t2 t3 t4 t5 t6 d3 d5 d6 d8 d9
        go_wp2
        go_loopw [6,7] (fun v i wr=>U2 st.l n w v i wr) (fun _ i _=>(intOf i+1).toNat)
        case atStart=>exact ⟨n+1,_,Nat.le_refl _,by congr 1;omega,by rw [List.drop_eq_nil_of_le (by simp;omega)];rfl,by first|rfl|rw [World.drewN_drewN]⟩
        case round=>
         obtain ⟨j,q2,hj,rfl,rfl,rfl⟩:=hrel
         cases j with
         |succ k=>
          obtain ⟨hak,bk,ok,hab,hxk,hk0,hk1⟩:=HCX.out k (by omega)
          simp only [Option.some.injEq,Addr.mk.injEq,and_true] at hab
          obtain ⟨rfl,rfl⟩:=hab
          have e:(((k+1:Nat):Int) - 1)=(k:Int):=by omega
          rw [e]
          clear e
          have hd:(st.l.take (n+1)).drop k=st.l.getD k 0::(st.l.take (n+1)).drop (k+1):=by
           have h1:k<(st.l.take (n+1)).length:=by simp;omega
           rw [List.drop_eq_getElem_cons h1]
           congr 1
           have h2:k<st.l.length:=by omega
           simp [List.getD,List.getElem?_eq_getElem h2]
          have hle:=valL_drop_le k (st.l.take (n+1))
          have hM:=HVM.out
          generalize st.l.getD k 0=z at*
          have HN:Hid ((valL ((st.l.take (n+1)).drop k):Int)=128*(valL ((st.l.take (n+1)).drop (k+1)):Int)+z%128):=Hm (by rw [hd,valL];push_cast;omega)
          have hbd:128*(valL ((st.l.take (n+1)).drop (k+1)):Int)+z%128<18446744073709551616:=by rw [←HN.out];omega
          generalize valL ((st.l.take (n+1)).drop (k+1))=vv at*
          clear hle hM hd
          have s3:(0:Int)≤(a:Int)+(k:Int):=by omega
          have s4:(a:Int)+(k:Int)<(L.length:Int):=by omega
          have s7:(128:Int)*(vv:Int)<18446744073709551616:=by omega
          have s8:IntKind.u64.wrap (128*(vv:Int))=128*(vv:Int):=by rw [u64_wrap'];omega
          have s9:IntKind.u64.wrap (128*(vv:Int)+z%128)=128*(vv:Int)+z%128:=by rw [u64_wrap'];omega
          have s5:((a:Int)+(k:Int)).toNat=a+k:=by omega
          have s6:IntKind.i64.wrap ((a:Int)+(k:Int))=(a:Int)+(k:Int):=IntWalk.i64_in _ (by have:=HLEN.out;omega)
          go_wp2
          go_quiet (fail)
          clear s3 s4 s5 s6 s7 s8 s9
          go_wp2
          go_roundw
          case rel=>exact ⟨k,q2+nq,by omega,by first|rfl|(congr 1;omega),by rw [HN.out],by first|rfl|rw [World.drewN_drewN]⟩
          case measure=>simp [intOf]
         |zero=>
          have e:(((0:Nat):Int) - 1)= -1:=by omega
          rw [e]
          clear e
          simp only [List.drop_zero]
          have hM:=HVM.out
          generalize valL (st.l.take (n+1))=vv at*
          have hb1:(a:Int)+(n:Int)+1≤2000000:=by have:=HLEN.out;omega
          by_cases hgt:m<vv
          ·have hE:Hid (uintR m st=(0,giveS st 4)):=Hm (by unfold uintR;simp only [HDG.out];rw [if_neg (by simp),if_pos hgt])
           have HG:=Hm (fun w h=>fgive_any g d st 4 w h (by decide))
           have hgt' :(m:Int)<(vv:Int):=by omega
           go_wp2_with (go_at_call 30;refine (HG.out _ ((H.out.drewN _))).mono ?_;rintro e w2 ⟨rfl,hr,ht⟩;have HR:=Hm hr;have HT:=Hm ht;clear hr ht)
           go_ret
           exact ⟨by rw [hE.out];rfl,by rw [hE.out];exact HR.out,(Tch.of_ext ((Ext.refl w).drewN _)).trans HT.out⟩
          ·have hE:Hid (uintR m st=(vv,⟨st.l.drop (n+1),st.e⟩)):=Hm (by unfold uintR;simp only [HDG.out];rw [if_neg (by simp),if_neg hgt])
           have hgt' :(vv:Int)≤(m:Int):=by omega
           go_wp2
           go_ret
           have hT:Tch g w ((w.drewN q2).setCell ⟨g,1,none⟩ (.int .i64 ((a:Int)+(n:Int)+1))):=(Tch.of_ext ((Ext.refl w).drewN q2)).trans ((Tch.refl g _).set 1 _)
           refine ⟨by rw [hE.out];rfl, ?_,hT⟩
           rw [hE.out]
           have he:st.e=0:=Classical.byContradiction fun he=>by have h:=HLL.out;rw [if_neg he] at h;rw [h] at hlt2;simp at hlt2
           have hlL:st.l=L.drop a:=by have h:=HLL.out;rw [if_pos he] at h;exact h
           refine ⟨_,L,a+n+1,by have h:=(HB.out.drewN q2).set 1 (.int .i64 ((a:Int)+(n:Int)+1));simpa using h,HS.out.tch hT (.inr (Nat.le_refl _)),by omega, ?_,HBI.out,HLEN.out⟩
           show st.l.drop (n+1)=if st.e=0 then _ else _
           rw [if_pos he,hlL,List.drop_drop,Nat.add_assoc]
       ·have hx3:(x==0)=false:=by simp;omega
        have hn1' :(0:Int)<(n:Int):=by omega
        have hn0n:0<n:=by omega
        clear h9 c1 c2 h0
        have t1:(n:Int)<(st.l.length:Int):=by omega
        have t2:n<st.l.length:=by omega
        have t3:(0:Int)≤(a:Int)+(n:Int):=by omega
        have t4:(a:Int)+(n:Int)<(L.length:Int):=by omega
        have t5:((a:Int)+(n:Int)).toNat=a+n:=by omega
        have t6:IntKind.i64.wrap ((a:Int)+(n:Int))=(a:Int)+(n:Int):=IntWalk.i64_in _ (by have:=HLEN.out;omega)
        go_wp2
        go_quiet ((go_at_call 56;refine quiet_of2 (HLF.out _ (H.out.drewN _))))
        go_wp2_with (go_at_call 56;refine (HLF.out _ (H.out.drewN _)).mono ?_;rintro e w1 ⟨rfl,q1,rfl⟩)
        go_quiet (fail)
        clear t1 t2 t3 t4 t5 t6 d3 d5 d6 hx3
        go_wp2
        go_loopw [6,7] (fun v i wr=>U2 st.l n w v i wr) (fun _ i _=>(intOf i+1).toNat)
        case atStart=>exact ⟨n+1,_,Nat.le_refl _,by congr 1;omega,by rw [List.drop_eq_nil_of_le (by simp;omega)];rfl,by first|rfl|rw [World.drewN_drewN]⟩
        case round=>
         obtain ⟨j,q2,hj,rfl,rfl,rfl⟩:=hrel
         cases j with
         |succ k=>
          obtain ⟨hak,bk,ok,hab,hxk,hk0,hk1⟩:=HCX.out k (by omega)
          simp only [Option.some.injEq,Addr.mk.injEq,and_true] at hab
          obtain ⟨rfl,rfl⟩:=hab
          have e:(((k+1:Nat):Int) - 1)=(k:Int):=by omega
          rw [e]
          clear e
          have hd:(st.l.take (n+1)).drop k=st.l.getD k 0::(st.l.take (n+1)).drop (k+1):=by
           have h1:k<(st.l.take (n+1)).length:=by simp;omega
           rw [List.drop_eq_getElem_cons h1]
           congr 1
           have h2:k<st.l.length:=by omega
           simp [List.getD,List.getElem?_eq_getElem h2]
          have hle:=valL_drop_le k (st.l.take (n+1))
          have hM:=HVM.out
          generalize st.l.getD k 0=z at*
          have HN:Hid ((valL ((st.l.take (n+1)).drop k):Int)=128*(valL ((st.l.take (n+1)).drop (k+1)):Int)+z%128):=Hm (by rw [hd,valL];push_cast;omega)
          have hbd:128*(valL ((st.l.take (n+1)).drop (k+1)):Int)+z%128<18446744073709551616:=by rw [←HN.out];omega
          generalize valL ((st.l.take (n+1)).drop (k+1))=vv at*
          clear hle hM hd
          have s3:(0:Int)≤(a:Int)+(k:Int):=by omega
          have s4:(a:Int)+(k:Int)<(L.length:Int):=by omega
          have s7:(128:Int)*(vv:Int)<18446744073709551616:=by omega
          have s8:IntKind.u64.wrap (128*(vv:Int))=128*(vv:Int):=by rw [u64_wrap'];omega
          have s9:IntKind.u64.wrap (128*(vv:Int)+z%128)=128*(vv:Int)+z%128:=by rw [u64_wrap'];omega
          have s5:((a:Int)+(k:Int)).toNat=a+k:=by omega
          have s6:IntKind.i64.wrap ((a:Int)+(k:Int))=(a:Int)+(k:Int):=IntWalk.i64_in _ (by have:=HLEN.out;omega)
          go_wp2
          go_quiet (fail)
          clear s3 s4 s5 s6 s7 s8 s9
          go_wp2
          go_roundw
          case rel=>exact ⟨k,q2+nq,by omega,by first|rfl|(congr 1;omega),by rw [HN.out],by first|rfl|rw [World.drewN_drewN]⟩
          case measure=>simp [intOf]
         |zero=>
          have e:(((0:Nat):Int) - 1)= -1:=by omega
          rw [e]
          clear e
          simp only [List.drop_zero]
          have hM:=HVM.out
          generalize valL (st.l.take (n+1))=vv at*
          have hb1:(a:Int)+(n:Int)+1≤2000000:=by have:=HLEN.out;omega
          by_cases hgt:m<vv
          ·have hE:Hid (uintR m st=(0,giveS st 4)):=Hm (by unfold uintR;simp only [HDG.out];rw [if_neg (by simp),if_pos hgt])
           have HG:=Hm (fun w h=>fgive_any g d st 4 w h (by decide))
           have hgt' :(m:Int)<(vv:Int):=by omega
           go_wp2_with (go_at_call 30;refine (HG.out _ ((H.out.drewN _))).mono ?_;rintro e w2 ⟨rfl,hr,ht⟩;have HR:=Hm hr;have HT:=Hm ht;clear hr ht)
           go_ret
           exact ⟨by rw [hE.out];rfl,by rw [hE.out];exact HR.out,(Tch.of_ext ((Ext.refl w).drewN _)).trans HT.out⟩
          ·have hE:Hid (uintR m st=(vv,⟨st.l.drop (n+1),st.e⟩)):=Hm (by unfold uintR;simp only [HDG.out];rw [if_neg (by simp),if_neg hgt])
           have hgt' :(vv:Int)≤(m:Int):=by omega
           go_wp2
           go_ret
           have hT:Tch g w ((w.drewN q2).setCell ⟨g,1,none⟩ (.int .i64 ((a:Int)+(n:Int)+1))):=(Tch.of_ext ((Ext.refl w).drewN q2)).trans ((Tch.refl g _).set 1 _)
           refine ⟨by rw [hE.out];rfl, ?_,hT⟩
           rw [hE.out]
           have he:st.e=0:=Classical.byContradiction fun he=>by have h:=HLL.out;rw [if_neg he] at h;rw [h] at hlt2;simp at hlt2
           have hlL:st.l=L.drop a:=by have h:=HLL.out;rw [if_pos he] at h;exact h
           refine ⟨_,L,a+n+1,by have h:=(HB.out.drewN q2).set 1 (.int .i64 ((a:Int)+(n:Int)+1));simpa using h,HS.out.tch hT (.inr (Nat.le_refl _)),by omega, ?_,HBI.out,HLEN.out⟩
           show st.l.drop (n+1)=if st.e=0 then _ else _
           rw [if_pos he,hlL,List.drop_drop,Nat.add_assoc]
   ·have hne:n=st.l.length:=by omega
    have hE:Hid (uintR m st=(0,giveS st 1)):=Hm (by
     unfold uintR;simp only [digs_short st.l n hne hn9 HBB.out];rfl)
    have HG:=Hm (fun w h=>fgive_any g d st 1 w h (by decide))
    have d2:decide (n<st.l.length)=false:=by simp;omega
    have d3:((n:Int)==10)=false:=by simp;omega
    have hge:(st.l.length:Int)≤(n:Int):=by omega
    have d4:decide (st.l.length≤n)=true:=by simp;omega
    clear hex hne hlt2 h10
    by_cases h9:n=9
    ·have d5:((n:Int)==9)=true:=by simp;omega
     clear h9
     go_wp2
     go_quiet ((go_at_call 56;refine quiet_of2 (HLF.out _ (H.out.drewN _))))
     go_wp2_with (first
      |(go_at_call 56;refine (HLF.out _ (H.out.drewN _)).mono ?_;rintro e w1 ⟨rfl,q1,rfl⟩)
      |(go_at_call 30;refine (HG.out _ ((H.out.drewN _))).mono ?_;rintro e w2 ⟨rfl,hr,ht⟩;have HR:=Hm hr;have HT:=Hm ht;clear hr ht))
     go_ret
     exact ⟨by rw [hE.out];rfl,by rw [hE.out];exact HR.out,(Tch.of_ext ((Ext.refl w).drewN _)).trans HT.out⟩
    ·have d5:((n:Int)==9)=false:=by simp;omega
     clear h9
     go_wp2
     go_quiet ((go_at_call 56;refine quiet_of2 (HLF.out _ (H.out.drewN _))))
     go_wp2_with (first
      |(go_at_call 56;refine (HLF.out _ (H.out.drewN _)).mono ?_;rintro e w1 ⟨rfl,q1,rfl⟩)
      |(go_at_call 30;refine (HG.out _ ((H.out.drewN _))).mono ?_;rintro e w2 ⟨rfl,hr,ht⟩;have HR:=Hm hr;have HT:=Hm ht;clear hr ht))
     go_ret
     exact ⟨by rw [hE.out];rfl,by rw [hE.out];exact HR.out,(Tch.of_ext ((Ext.refl w).drewN _)).trans HT.out⟩
theorem zag_any (n:Nat) (w:World) (hn:n<2 ^ 64):
 Calls Tryz.prog 178 #[.int .u64 n] w fun e w' =>e= .returned (.int .i64 (zag n))∧w=w' :=by
 by_cases h:n%2=1
 ·have HZ:Hid (zag n= -((n:Int) / 2) - 1):=Hm (by unfold zag;rw [if_pos h];omega)
  have h1:(n:Int)%2=1:=by omega
  go_enter Tryz.func178,Tryz.ntmps178
  go_wp2
  go_ret
  exact ⟨ret_int (by rw [HZ.out]),rfl⟩
 ·have HZ:Hid (zag n=(n:Int) / 2):=Hm (by unfold zag;rw [if_neg h];omega)
  have h1:(n:Int)%2=0:=by omega
  go_enter Tryz.func178,Tryz.ntmps178
  go_wp2
  go_ret
  exact ⟨ret_int (by rw [HZ.out]),rfl⟩
theorem fint_any (g d:Nat) (st:RS) (w:World) (h:RF w g d st):
 Calls Tryz.prog 156 #[.pointer (some ⟨g,0,none⟩)] w (FPost g d w (.int .i64 (intR st).1) (intR st).2):=by
 have H:=Hm h
 have HU:=Hm (fun w h=>fuint_any g d st 18446744073709551615 w h (by omega))
 have hle:=uintR_le (st:=st) 18446744073709551615
 unfold intR
 simp only
 generalize uintR 18446744073709551615 st=U at*
 obtain ⟨n,st1⟩:=U
 simp only at*
 have HL:Hid (n<2 ^ 64):=Hm (by omega)
 clear h
 go_enter Tryz.func156,Tryz.ntmps156
 go_wp2_with (first
  |(go_at_call 27;refine (HU.out _ H.out).mono ?_;rintro e w1 ⟨rfl,hr,ht⟩;have HR:=Hm hr;have HT:=Hm ht;clear hr ht)
  |(go_at_call 178;refine (zag_any n _ HL.out).mono ?_;rintro e w2 ⟨rfl,rfl⟩))
 go_ret
 exact ⟨rfl,HR.out,HT.out⟩
theorem ftext_any (g d:Nat) (st:RS) (m:Nat) (w:World) (h:RF w g d st) (hm:m≤1000000):
 Calls Tryz.prog 120 #[.pointer (some ⟨g,0,none⟩), .int .i64 m] w (FPost g d w (.string (strOfNums (textR m st).1)) (textR m st).2):=by
 have H:=Hm h
 have HU:=Hm (fun w h=>fuint_any g d st m w h (by omega))
 have hle:=uintR_le (st:=st) m
 unfold textR
 simp only
 generalize uintR m st=U at*
 obtain ⟨n,st1⟩:=U
 simp only at*
 have HB:=Hm (fun w h=>fbytes_any g d st1 n w h (by omega))
 have hm0:(0:Int)≤(m:Int):=by omega
 clear h
 go_enter Tryz.func120,Tryz.ntmps120
 go_wp2_with (first
  |(go_at_call 27;refine (HU.out _ H.out).mono ?_;rintro e w1 ⟨rfl,hr,ht⟩;have HR:=Hm hr;have HT:=Hm ht;clear hr ht)
  |(go_at_call 55;refine (HB.out _ HR.out).mono ?_;rintro e w2 ⟨rfl,hr2,ht2⟩;have HR2:=Hm hr2;have HT2:=Hm ht2;clear hr2 ht2))
 go_ret
 exact ⟨rfl,HR2.out,HT.out.trans HT2.out⟩
theorem strOf_get {l:List Int} (hb:isB l) {k:Nat} (hk:k<(strOfNums l).size):((strOfNums l)[k].toNat:Int)=l.getD k 0:=by
 have hk2:k<l.length:=by rwa [strOfNums_size] at hk
 have h:(strOfNums l)[k]=UInt8.ofNat (l[k]).toNat:=by
  show (strOfNums l).data[k]=_
  simp [strOfNums]
 rw [h]
 have:=hb l[k] (List.getElem_mem hk2)
 simp only [UInt8.toNat_ofNat',List.getD,List.getElem?_eq_getElem hk2,Option.getD_some]
 omega
theorem fbyte_any (g d:Nat) (st:RS) (w:World) (h:RF w g d st):
 Calls Tryz.prog 26 #[.pointer (some ⟨g,0,none⟩)] w (FPost g d w (.int .u8 (byteR st).1) (byteR st).2):=by
 have H:=Hm h
 have hok:=h.ok
 have HB:=Hm (fun w h=>fbytes_any g d st 1 w h (by omega))
 have hib:=bytesR_isB hok 1
 have hln:(bytesR 1 st).1.length≤1:=by unfold bytesR;split<;>simp;omega
 unfold byteR
 simp only
 generalize bytesR 1 st=U at*
 obtain ⟨L,st1⟩:=U
 simp only at*
 clear h hok
 cases L with
 |nil=>
  have e:strOfNums []=ByteArray.empty:=rfl
  rw [e] at HB
  clear e
  go_enter Tryz.func26,Tryz.ntmps26
  go_wp2_with (go_at_call 55;refine (HB.out _ H.out).mono ?_;rintro e w2 ⟨rfl,hr2,ht2⟩;have HR2:=Hm hr2;have HT2:=Hm ht2;clear hr2 ht2)
  go_ret
  exact ⟨rfl,HR2.out,HT2.out⟩
 |cons x L=>
  have hL:L= []:=by cases L with|nil=>rfl|cons y L=>simp at hln
  subst hL
  have h0:=hib.head
  obtain ⟨s,hs⟩:∃s,s=strOfNums [x]:=⟨_,rfl⟩
  have h1:s.size=1:=by rw [hs,strOfNums_size];rfl
  have h2:(s[0].toNat:Int)=x:=by
   have hh:∀(t:ByteArray) (h:0<t.size),t=strOfNums [x]→(t[0].toNat:Int)=x:=by
    rintro t h rfl;exact strOf_get hib h
   exact hh s (by omega) hs
  have h3:s.toList≠ []:=by
   intro h
   have:s.data.toList= []:=by rw [←ByteArray.toList_eq];exact h
   have h4:s.data.toList.length=s.size:=by simp
   rw [this] at h4;simp at h4;omega
  rw [←hs] at HB
  clear hs hib hln
  have h5:s.toList.isEmpty=false:=by cases h:s.toList with|nil=>exact absurd h h3|cons a b=>rfl
  have h6:(s.toList== [])=false:=by cases h:s.toList with|nil=>exact absurd h h3|cons a b=>rfl
  clear h3
  go_enter Tryz.func26,Tryz.ntmps26
  go_wp2_with (go_at_call 55;refine (HB.out _ H.out).mono ?_;rintro e w2 ⟨rfl,hr2,ht2⟩;have HR2:=Hm hr2;have HT2:=Hm ht2;clear hr2 ht2)
  go_ret
  exact ⟨ret_int (by first|exact h2|simp|rfl),HR2.out,HT2.out⟩
theorem ofBytes_drop_le:∀(k:Nat) (l:List Int),ofBytes (l.drop k)≤ofBytes l:=by
 intro k
 induction k with
 |zero=>intro l;simp
 |succ k ih=>
  intro l
  cases l with
  |nil=>simp
  |cons x l=>rw [List.drop_succ_cons,ofBytes];have:=ih l;omega
theorem fword_any (g d:Nat) (st:RS) (w:World) (h:RF w g d st):
 Calls Tryz.prog 155 #[.pointer (some ⟨g,0,none⟩)] w (FPost g d w (.int .u64 (wordR st).1) (wordR st).2):=by
 have H:=Hm h
 have hok:=h.ok
 have HB:=Hm (fun w h=>fbytes_any g d st 8 w h (by omega))
 have hib:=bytesR_isB hok 8
 have hln:(bytesR 8 st).1.length≤8:=by unfold bytesR;split<;>simp<;>omega
 have hlt:=ofBytes_lt64 hib hln
 unfold wordR
 simp only
 generalize bytesR 8 st=U at*
 obtain ⟨L,st1⟩:=U
 simp only at*
 obtain ⟨s,hs⟩:∃s,s=strOfNums L:=⟨_,rfl⟩
 have hsz:s.size=L.length:=by rw [hs,strOfNums_size]
 have HG:Hid (∀(k:Nat) (h:k<s.size),(s[k].toNat:Int)=L.getD k 0):=Hm (by subst hs;exact fun k h=>strOf_get hib h)
 rw [←hs] at HB
 have HSZ:=Hm hsz
 have HIB:=Hm hib
 have hs8:s.size≤8:=by omega
 have HLT:=Hm hlt
 clear h hok hs hib hsz hlt
 go_enter Tryz.func155,Tryz.ntmps155
 go_wp2_with (go_at_call 55;refine (HB.out _ H.out).mono ?_;rintro e w2 ⟨rfl,hr2,ht2⟩;have HR2:=Hm hr2;have HT2:=Hm ht2;clear hr2 ht2)
 go_loop [4,5] (fun v i=>∃j:Nat,j≤s.size∧i= .int .i64 ((j:Int) - 1)∧v= .int .u64 (ofBytes (L.drop j))) (fun _ i=>(intOf i+1).toNat)
 case atStart=>exact ⟨s.size,Nat.le_refl _,rfl,by rw [HSZ.out,List.drop_length];rfl⟩
 case round=>
  obtain ⟨j,hj,rfl,rfl⟩:=hrel
  cases j with
  |succ k=>
   have e:(((k+1:Nat):Int) - 1)=(k:Int):=by omega
   rw [e]
   clear e
   have hks:k<s.size:=by omega
   have hkl:k<L.length:=by rw [←HSZ.out];exact hks
   have hx:=HG.out k hks
   have hx0:=HIB.out (L.getD k 0) (by rw [List.getD_eq_getElem?_getD,List.getElem?_eq_getElem hkl];exact List.getElem_mem hkl)
   have hd:L.drop k=L.getD k 0::L.drop (k+1):=by
    rw [List.drop_eq_getElem_cons hkl];simp [List.getD,List.getElem?_eq_getElem hkl]
   have hle:=ofBytes_drop_le k L
   have hM:=HLT.out
   have HN:Hid ((ofBytes (L.drop k):Int)=256*(ofBytes (L.drop (k+1)):Int)+(s[k].toNat:Int)):=Hm (by rw [hx,hd,ofBytes];push_cast;omega)
   have hbd:256*(ofBytes (L.drop (k+1)):Int)+(s[k].toNat:Int)<18446744073709551616:=by rw [←HN.out];omega
   clear hx hx0 hd hle hM hkl
   generalize ofBytes (L.drop (k+1))=vv at*
   have hb0:(s[k].toNat:Int)<256:=by have:=s[k].toNat_lt;omega
   go_wp2
   go_round
   case rel=>exact ⟨k,by omega,rfl,by rw [HN.out]⟩
   case measure=>simp [intOf]
  |zero=>
   have e:(((0:Nat):Int) - 1)= -1:=by omega
   rw [e]
   clear e
   simp only [List.drop_zero]
   go_wp2
   go_ret
   exact ⟨rfl,HR2.out,HT2.out⟩
theorem ftf_any (g d:Nat) (st:RS) (ver:Int) (w:World) (h:RF w g d st):
 Calls Tryz.prog 157 #[.pointer (some ⟨g,0,none⟩), .int .u8 ver] w (FPost g d w (.int .u64 (floatR ver st).1) (floatR ver st).2):=by
 have H:=Hm h
 by_cases h1:ver=1
 ·have HW:=Hm (fun w h=>fword_any g d st w h)
  subst h1
  unfold floatR
  rw [if_pos rfl]
  clear h
  go_enter Tryz.func157,Tryz.ntmps157
  go_wp2_with (go_at_call 155;refine (HW.out _ H.out).mono ?_;rintro e w1 ⟨rfl,hr,ht⟩;have HR:=Hm hr;have HT:=Hm ht;clear hr ht)
  go_ret
  exact ⟨rfl,HR.out,HT.out⟩
 ·have HU:=Hm (fun w h=>fuint_any g d st 18446744073709551615 w h (by omega))
  have hle:=uintR_le (st:=st) 18446744073709551615
  unfold floatR
  rw [if_neg h1]
  simp only
  generalize uintR 18446744073709551615 st=U at*
  obtain ⟨n,st1⟩:=U
  simp only at*
  have HL:Hid (n<2 ^ 64):=Hm (by omega)
  clear h
  go_enter Tryz.func157,Tryz.ntmps157
  go_wp2_with (first
   |(go_at_call 27;refine (HU.out _ H.out).mono ?_;rintro e w1 ⟨rfl,hr,ht⟩;have HR:=Hm hr;have HT:=Hm ht;clear hr ht)
   |(go_at_call 179;refine (rturned_any n _ HL.out).mono ?_;rintro e w2 ⟨rfl,hb2⟩;have HR2:=Hm (HR.out.ext hb2);have HT2:=Hm (HT.out.trans (Tch.of_ext hb2));clear hb2))
  go_ret
  exact ⟨rfl,HR2.out,HT2.out⟩
theorem fpart_any (g d:Nat) (st:RS) (t:Bool) (w:World) (h:RF w g d st):
 Calls Tryz.prog 158 #[.pointer (some ⟨g,0,none⟩), .bool t] w (FPost g d w (.int .u64 (partR t st).1) (partR t st).2):=by
 have H:=Hm h
 clear h
 cases t with
 |false=>
  go_enter Tryz.func158,Tryz.ntmps158
  go_wp2
  go_ret
  exact ⟨rfl,H.out,Tch.refl g w⟩
 |true=>
  have HF:=Hm (fun w h=>ftf_any g d st 2 w h)
  unfold partR
  rw [if_pos rfl]
  simp only
  generalize floatR 2 st=U at*
  obtain ⟨x,st1⟩:=U
  simp only at*
  have HG:=Hm (fun w h=>fgive_any g d st1 3 w h (by decide))
  by_cases x0:x=0
  ·subst x0
   go_enter Tryz.func158,Tryz.ntmps158
   go_wp2_with (first
    |(go_at_call 157;refine (HF.out _ H.out).mono ?_;rintro e w1 ⟨rfl,hr,ht⟩;have HR:=Hm hr;have HT:=Hm ht;clear hr ht)
    |(go_at_call 30;refine (HG.out _ HR.out).mono ?_;rintro e w2 ⟨rfl,hr2,ht2⟩;have HR2:=Hm hr2;have HT2:=Hm ht2;clear hr2 ht2))
   go_ret
   exact ⟨rfl,HR2.out,HT.out.trans HT2.out⟩
  ·have x1:((x:Int)==0)=false:=by simpa using x0
   have X0:=Hm x0
   clear x0
   go_enter Tryz.func158,Tryz.ntmps158
   go_wp2_with (first
    |(go_at_call 157;refine (HF.out _ H.out).mono ?_;rintro e w1 ⟨rfl,hr,ht⟩;have HR:=Hm hr;have HT:=Hm ht;clear hr ht))
   go_ret
   exact ⟨rfl,by first|exact HR.out|(rw [if_neg X0.out];exact HR.out),HT.out⟩
theorem number_any (g d:Nat) (st:RS) (w:World) (h:RD w g d st):
 Calls Tryz.prog 82 #[.pointer (some ⟨g,0,none⟩)] w (RPost g d w (.int .u32 (uintR 4294967295 st).1) (uintR 4294967295 st).2):=by
 have HU:=Hm (ruint2_any g d st 4294967295 w h (by decide))
 have hle:=uintR_le (st:=st) 4294967295
 have hwr:IntKind.u32.wrap ((uintR 4294967295 st).1:Int)=((uintR 4294967295 st).1:Int):=by
  simp [IntKind.wrap,IntKind.signed,IntKind.bits];omega
 unfold RPost at HU⊢
 obtain ⟨X,hX⟩:∃X,X=(uintR 4294967295 st).1:=⟨_,rfl⟩
 rw [←hX] at HU hwr hle⊢
 clear hX
 go_enter Tryz.func82,Tryz.ntmps82
 go_wp2_with (go_at_call 50;refine HU.out.mono ?_;rintro e w1 ⟨rfl,h1,h2⟩;have H1:=Hm h1;have H2:=Hm h2;clear h1 h2)
 go_ret
 exact ⟨ret_int (by first|rfl|exact hwr),H1.out,H2.out⟩
end Go.Proofs.YtodbhliidbclcaaGreat
