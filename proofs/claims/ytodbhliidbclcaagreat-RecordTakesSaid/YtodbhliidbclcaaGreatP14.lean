/-
Cells, in plain words: from no other bytes; how long they are in both versions.
-/
import Derived.Test.YtodbhliidbclcaaGreatP13
set_option maxRecDepth 100000
set_option maxHeartbeats 16000000
namespace Go.Proofs.YtodbhliidbclcaaGreat
open Go.RowKit
theorem gave_form {st:RS} (h:st.ok) (he:st.e≠0):st=⟨[],st.e⟩:=by
 cases st;simp only at he;have:=h.1 he;simp only at this;subst this;rfl
theorem uintR_gave {m:Nat} {e:Int} (he:e≠0):uintR m ⟨[],e⟩=(0,⟨[],e⟩):=by
 have h:giveS ⟨[],e⟩ 1=⟨[],e⟩:=giveS_gave 1 he
 unfold uintR
 have hd:digs ([]:List Int) 0 0=(0,0,1):=rfl
 simp only [hd]
 exact (if_pos (by decide)).trans (congrArg (Prod.mk 0) h)
theorem bytesR_gave {n:Nat} {e:Int} (he:e≠0):bytesR n ⟨[],e⟩=([],⟨[],e⟩):=by
 unfold bytesR
 split
 ·rw [giveS_gave 1 he]
 ·simp
theorem byteR_gave {e:Int} (he:e≠0):byteR ⟨[],e⟩=(0,⟨[],e⟩):=by unfold byteR;rw [bytesR_gave he];rfl
theorem wordR_gave {e:Int} (he:e≠0):wordR ⟨[],e⟩=(0,⟨[],e⟩):=by unfold wordR;rw [bytesR_gave he];rfl
theorem floatR_gave {ver:Int} {e:Int} (he:e≠0):(floatR ver ⟨[],e⟩).2=⟨[],e⟩:=by
 unfold floatR;split
 ·rw [wordR_gave he]
 ·simp only;rw [uintR_gave he]
theorem failS_gave {e x:Int} (he:e≠0):failS ⟨[],e⟩ x=⟨[],e⟩:=by
 unfold failS;split
 ·exact giveS_gave x he
 ·rfl
theorem partR_gave {t:Bool} {e:Int} (he:e≠0):(partR t ⟨[],e⟩).2=⟨[],e⟩:=by
 unfold partR;split
 ·simp only
  have h:=floatR_gave (ver:=2) he
  rw [h]
  split
  ·exact giveS_gave 3 he
  ·rfl
 ·rfl
theorem complexR_gave {ver:Int} {e:Int} (he:e≠0):(complexR ver ⟨[],e⟩).2=⟨[],e⟩:=by
 unfold complexR;split
 ·simp only;rw [wordR_gave he];simp only;rw [wordR_gave he]
 ·simp only;rw [byteR_gave he];simp only
  rw [if_neg (by decide),partR_gave he,partR_gave he]
theorem textR_gave {m:Nat} {e:Int} (he:e≠0):textR m ⟨[],e⟩=([],⟨[],e⟩):=by
 unfold textR;simp only;rw [uintR_gave he];simp only;rw [bytesR_gave he]
theorem bodyR_gave {kind ver:Int} {e:Int} (he:e≠0):(bodyR kind ver ⟨[],e⟩).2=⟨[],e⟩:=by
 unfold bodyR
 (repeat' split)
 ·simp only;rw [byteR_gave he]
 ·simp only;rw [wordR_gave he]
 ·simp only [intR];rw [uintR_gave he]
 ·simp only;rw [floatR_gave he]
 ·simp only;rw [complexR_gave he]
 ·simp only;rw [textR_gave he]
 ·rfl
theorem takeV_gave {kind ver:Int} {e:Int} (he:e≠0):(takeV kind ver ⟨[],e⟩).2=⟨[],e⟩:=by
 unfold takeV
 split
 ·simp only
  rw [bodyR_gave he,failS_gave he,if_pos he]
 ·exact giveS_gave 18 he
def tailC (kind:Int) (S:RS):(K×Nat)×RS:=if kind=5∨kind=6 then textK kind (textR 64 S) else ((⟨2,(takeV kind 1 S).1⟩,0),(takeV kind 1 S).2)
theorem tailC_gave {kind:Int} {e:Int} (he:e≠0):(tailC kind ⟨[],e⟩).2=⟨[],e⟩:=by
 unfold tailC
 split
 ·rw [textR_gave he];exact failS_gave he
 ·exact takeV_gave he
theorem largeR_le {st:RS} :(largeR st).1≤2048:=by unfold largeR;exact uintR_le 2048
theorem giveS_nil {st:RS} {x:Int} (hx:x≠0) (h:st.ok):∃e,e≠0∧giveS st x=⟨[],e⟩:=by
 unfold giveS
 split
 ·exact ⟨x,hx,rfl⟩
 ·rename_i he;exact ⟨st.e,he,gave_form h he⟩
theorem celof_any (ty n:Int) (x y:Nat) (s:ByteArray) (w:World):
 Calls Tryz.prog 115 #[.agg #[.int .u8 ty, .int .i64 n, .complex .f64 x y, .string s]] w fun e w' =>
  e= .returned (.agg #[.int .u8 2, .int .u8 ty, .int .i64 n, .complex .f64 x y, .string s])∧Ext w w' :=by
 go_enter Tryz.func115,Tryz.ntmps115
 go_wp2
 simp [bodyPost,results,Tryz.results115,go_sem]
 exact eX
def byByte (st:RS):Nat→List Int×RS
 |0=>([],st)
 |k+1=>((byByte st k).1++ [(byteR (byByte st k).2).1],(byteR (byByte st k).2).2)
theorem byByte_len (st:RS):∀k,(byByte st k).1.length=k
 |0=>rfl
 |k+1=>by unfold byByte;simp [byByte_len st k]
theorem byByte_gave {e:Int} (he:e≠0):∀k,byByte ⟨[],e⟩ k=(List.replicate k 0,⟨[],e⟩)
 |0=>rfl
 |k+1=>by unfold byByte;rw [byByte_gave he k,byteR_gave he,List.replicate_succ']
theorem byByte_ok {st:RS} (h:st.ok):∀k,(byByte st k).2.ok
 |0=>h
 |k+1=>byteR_ok (byByte_ok h k)
theorem byByte_isB {st:RS} (h:st.ok):∀k,isB (byByte st k).1
 |0=>isB.nil
 |k+1=>by
  unfold byByte
  refine (byByte_isB h k).append ?_
  intro x hx
  obtain rfl:x=_:=by simpa using hx
  unfold byteR
  simp only
  have:=bytesR_isB (byByte_ok h k) 1
  cases hq:(bytesR 1 (byByte st k).2).1 with
  |nil=>simp
  |cons a l=>rw [hq] at this;exact this.head
theorem byByte_has (st:RS):∀k,k≤st.l.length→byByte st k=(st.l.take k,⟨st.l.drop k,st.e⟩)
 |0,_=>by simp [byByte]
 |k+1,h=>by
  unfold byByte
  rw [byByte_has st k (by omega)]
  unfold byteR bytesR
  simp only
  rw [if_neg (by simp;omega)]
  have hk:k<st.l.length:=by omega
  rw [List.drop_eq_getElem_cons hk]
  simp only [List.take_succ_cons,List.take_zero,List.headD_cons,List.drop_succ_cons,List.drop_zero]
  rw [List.take_succ_eq_append_getElem hk]
def tkUp (nulls:List Bool) (cols:List Col) (ver:Int) (st:RS):Nat→(List K×List Ho)×RS
 |0=>(([], []),st)
 |k+1=>
  if h:k<nulls.length∧k<cols.length then
   (if nulls[k]'h.1=true then (((tkUp nulls cols ver st k).1.1++ [K.zero],(tkUp nulls cols ver st k).1.2),(tkUp nulls cols ver st k).2)
    else (((tkUp nulls cols ver st k).1.1++ [(takeC (cols[k]'h.2).ty ver (tkUp nulls cols ver st k).2).1.1],
     (if 0<(takeC (cols[k]'h.2).ty ver (tkUp nulls cols ver st k).2).1.2 then (tkUp nulls cols ver st k).1.2++ [⟨k,((takeC (cols[k]'h.2).ty ver (tkUp nulls cols ver st k).2).1.2:Nat)⟩] else (tkUp nulls cols ver st k).1.2)),
     (takeC (cols[k]'h.2).ty ver (tkUp nulls cols ver st k).2).2))
  else tkUp nulls cols ver st k
theorem tkUp_null {nulls:List Bool} {cols:List Col} {ver:Int} {st:RS} {k:Nat} (h1:k<nulls.length) (h2:k<cols.length) (h:nulls[k]=true):
 tkUp nulls cols ver st (k+1)=(((tkUp nulls cols ver st k).1.1++ [K.zero],(tkUp nulls cols ver st k).1.2),(tkUp nulls cols ver st k).2):=by
 conv=>lhs;unfold tkUp
 rw [dif_pos ⟨h1,h2⟩,if_pos h]
theorem tkUp_cell {nulls:List Bool} {cols:List Col} {ver:Int} {st:RS} {k:Nat} (h1:k<nulls.length) (h2:k<cols.length) (h:nulls[k]=false) {c:K} {m:Nat} {S:RS} (ht:takeC cols[k].ty ver (tkUp nulls cols ver st k).2=((c,m),S)):
 tkUp nulls cols ver st (k+1)=(((tkUp nulls cols ver st k).1.1++ [c],if 0<m then (tkUp nulls cols ver st k).1.2++ [⟨k,(m:Nat)⟩] else (tkUp nulls cols ver st k).1.2),S):=by
 conv=>lhs;unfold tkUp
 rw [dif_pos ⟨h1,h2⟩,if_neg (by rw [h];simp),ht]
theorem tkUp_len {nulls:List Bool} {cols:List Col} {ver:Int} {st:RS} :∀k,k≤nulls.length→k≤cols.length→(tkUp nulls cols ver st k).1.1.length=k
 |0,_,_=>rfl
 |k+1,h1,h2=>by
  have ih:=tkUp_len (nulls:=nulls) (cols:=cols) (ver:=ver) (st:=st) k (by omega) (by omega)
  unfold tkUp
  rw [dif_pos ⟨by omega,by omega⟩]
  split<;>simp [ih]
theorem tkUp_holes {nulls:List Bool} {cols:List Col} {ver:Int} {st:RS} :∀k,(tkUp nulls cols ver st k).1.2.length≤k
 |0=>Nat.le_refl _
 |k+1=>by
  have ih:=tkUp_holes (nulls:=nulls) (cols:=cols) (ver:=ver) (st:=st) k
  unfold tkUp
  split
  ·split
   ·simp only;omega
   ·simp only
    split
    ·simp only [List.length_append,List.length_cons,List.length_nil];omega
    ·omega
  ·omega
def begR (r:Rl) (ver:Int) (st:RS):RS:=if ver=1∨ver=2 then failS st r.right else giveS (failS st r.right) 18
def finT (t:(List K×List Ho)×RS):(List K×List Ho)×RS:=if t.2.e≠0 then (([], []),t.2) else t
def takeT (r:Rl) (ver:Int) (st:RS):(List K×List Ho)×RS:=
 if (begR r ver st).e≠0 then (([], []),begR r ver st)
 else if (bytesR (mapSize r.cols.length) (begR r ver st)).2.e≠0 then (([], []),(bytesR (mapSize r.cols.length) (begR r ver st)).2)
 else finT (tkUp (unmapL (bytesR (mapSize r.cols.length) (begR r ver st)).1 r.cols.length).1 r.cols ver (failS (bytesR (mapSize r.cols.length) (begR r ver st)).2 (unmapL (bytesR (mapSize r.cols.length) (begR r ver st)).1 r.cols.length).2) (unmapL (bytesR (mapSize r.cols.length) (begR r ver st)).1 r.cols.length).1.length)
theorem wordR_lt {st:RS} (h:st.ok):(wordR st).1<2 ^ 64:=ofBytes_lt64 (bytesR_isB h 8) (by unfold bytesR;split<;>simp<;>omega)
theorem vtf_any (g d:Nat) (st:RS) (ver:Int) (w:World) (h:RD w g d st):
 Calls Tryz.prog 153 #[.pointer (some ⟨g,0,none⟩), .int .u8 ver] w (RPost g d w (.int .u64 (floatR ver st).1) (floatR ver st).2):=by
 have H:=Hm h
 by_cases h1:ver=1
 ·have HW:=Hm (fun w h=>rword2_any g d st w h)
  subst h1
  unfold floatR
  rw [if_pos rfl]
  clear h
  go_enter Tryz.func153,Tryz.ntmps153
  go_wp2_with (go_at_call 150;refine (HW.out _ H.out).mono ?_;rintro e w1 ⟨rfl,hr,ht⟩;have HR:=Hm hr;have HT:=Hm ht;clear hr ht)
  go_ret
  exact ⟨rfl,HR.out,HT.out⟩
 ·have HU:=Hm (fun w h=>ruint2_any g d st 18446744073709551615 w h (by omega))
  have hle:=uintR_le (st:=st) 18446744073709551615
  unfold floatR
  rw [if_neg h1]
  simp only
  generalize uintR 18446744073709551615 st=U at*
  obtain ⟨n,st1⟩:=U
  simp only at*
  have HL:Hid (n<2 ^ 64):=Hm (by omega)
  clear h
  go_enter Tryz.func153,Tryz.ntmps153
  go_wp2_with (first
   |(go_at_call 50;refine (HU.out _ H.out).mono ?_;rintro e w1 ⟨rfl,hr,ht⟩;have HR:=Hm hr;have HT:=Hm ht;clear hr ht)
   |(go_at_call 177;refine (rev_any n _ HL.out).mono ?_;rintro e w2 ⟨rfl,rfl⟩))
  go_ret
  exact ⟨rfl,HR.out,HT.out⟩
theorem floatR_ne {ver:Int} (h:ver≠1) (st:RS):floatR ver st=floatR 2 st:=by unfold floatR;rw [if_neg h,if_neg (by decide)]
theorem Tch.trans' {g:Nat} {a b c:World} (h:Tch g a b) (k:Below a.heap.size b c):Tch g a c:=
 ⟨k.os.trans h.os,k.tape.trans h.tape,k.output.trans h.output,Nat.le_trans h.size k.size,fun i hi hg=>(k.block i hi).trans (h.block i hi hg)⟩
theorem Tch.setNew {g h:Nat} {w w' :World} (ht:Tch g w w') (hh:w.heap.size≤h) (i:Nat) (v:Value):Tch g w (w'.setCell ⟨h,i,none⟩ v):=
 ht.trans' ⟨rfl,rfl,rfl,by simp [World.setCell],fun k hk=>Below.heap_setCell _ _ _ _ (by simp;omega)⟩
theorem and1_u8 (m:Int) (h0:0≤m) (h1:m<256):bits BinOp.and IntKind.u8 m 1=m%2:=by
 have h:∀r:Nat,r<256→bits BinOp.and IntKind.u8 (r:Int) 1=(r:Int)%2:=by decide+kernel
 have:=h m.toNat (by omega)
 rw [show ((m.toNat:Nat):Int)=m by omega] at this
 exact this
def CxRel (g d h:Nat) (m:Int) (st:RS) (w:World) (i:Value) (wx:World):Prop:=
 (i= .int .i64 0∧Blk wx h #[.int .u64 0, .int .u64 0] 269∧RD wx g d st∧Tch g w wx)∨
 (i= .int .i64 1∧Blk wx h #[.int .u64 (partR (decide (m%2=1)) st).1, .int .u64 0] 269∧RD wx g d (partR (decide (m%2=1)) st).2∧Tch g w wx)∨
 (i= .int .i64 2∧Blk wx h #[.int .u64 (partR (decide (m%2=1)) st).1, .int .u64 (partR (decide (m / 2%2=1)) (partR (decide (m%2=1)) st).2).1] 269∧RD wx g d (partR (decide (m / 2%2=1)) (partR (decide (m%2=1)) st).2).2∧Tch g w wx)
theorem vtc_any (g d:Nat) (st:RS) (ver:Int) (w:World) (h:RD w g d st):
 Calls Tryz.prog 154 #[.pointer (some ⟨g,0,none⟩), .int .u8 ver] w (RPost g d w (.complex .f64 (complexR ver st).1.1 (complexR ver st).1.2) (complexR ver st).2):=by
 have H:=Hm h
 have hok:st.ok:=by obtain ⟨_,_,_,hok,_⟩:=h;exact hok
 clear h
 by_cases h1:ver=1
 ·subst h1
  have HW:=Hm (fun w h=>rword2_any g d st w h)
  unfold complexR
  rw [if_pos rfl]
  simp only
  generalize wordR st=U at*
  obtain ⟨x,st1⟩:=U
  simp only at*
  have HW2:=Hm (fun w h=>rword2_any g d st1 w h)
  generalize wordR st1=U at*
  obtain ⟨y,st2⟩:=U
  simp only at*
  go_enter Tryz.func154,Tryz.ntmps154
  go_upto_region 3 with (go_at_call 150;refine (HW.out _ H.out).mono ?_;rintro e w1 ⟨rfl,hr,ht⟩;have HR:=Hm hr;have HT:=Hm ht;clear hr ht)
  go_wp2_with (first
   |(go_at_call 150;refine (HW2.out _ HR.out).mono ?_;rintro e w2 ⟨rfl,hr,ht⟩;have HR2:=Hm hr;have HT2:=Hm ht;clear hr ht)
   |(go_at_call 152;refine (vof_any x y _).mono ?_;rintro e w3 ⟨rfl,rfl⟩))
  go_ret
  exact ⟨by first|rfl|simp,HR2.out,HT.out.trans HT2.out⟩
 ·have HBy:=Hm (fun w h=>rbyte_any g d st w h)
  unfold complexR
  rw [if_neg h1]
  simp only
  have hm:0≤(byteR st).1∧(byteR st).1<256:=by
   have:=bytesR_isB hok 1
   unfold byteR
   simp only
   cases hL:(bytesR 1 st).1 with
   |nil=>simp
   |cons x L=>rw [hL] at this;exact this.head
  generalize byteR st=U at*
  obtain ⟨m,st1⟩:=U
  simp only at*
  obtain ⟨hm0,hm1⟩:=hm
  generalize hST:(if 3<m then giveS st1 4 else st1)=st2
  have HST:=Hm hST
  clear hST
  have hand:=and1_u8
  go_enter Tryz.func154,Tryz.ntmps154
  go_upto_if 20 with (first
   |(go_at_call 49;refine (HBy.out _ H.out).mono ?_;rintro e w1 ⟨rfl,hr,ht⟩;have HR:=Hm hr;have HT:=Hm ht;clear hr ht))
  go_cut [] (fun wx=>Hid (RD wx g d st2)∧Hid (Tch g w wx))
  case first=>
   by_cases h3:3<m
   ·go_wp2_with (go_at_call 53;refine (fail_any g d st1 4 _ HR.out).mono ?_;rintro e w2 ⟨rfl,hr,ht⟩;have HR2:=Hm hr;have HT2:=Hm ht;clear hr ht)
    go_meet
    case rel=>exact ⟨by rw [←HST.out,if_pos h3];exact HR2.out,HT.out.trans HT2.out⟩
   ·go_wp2
    go_meet
    case rel=>exact ⟨by rw [←HST.out,if_neg (by omega)];exact HR.out,HT.out⟩
  case rest=>
   obtain ⟨HR2,HT2⟩:=hcut
   clear HR HT HST HBy H
   go_wp2
   go_loopw [23] (fun i wx=>CxRel g d wc.heap.size m st2 w i wx) (fun i _=>2 - (intOf i).toNat)
   case atStart=>
    have hgh:=HR2.out.lt
    exact .inl ⟨rfl,Blk.new _ _ _,HR2.out.ext ((Ext.refl wc).alloc _),HT2.out.alloc _⟩
   case round=>
    have hgh:g<wc.heap.size:=HR2.out.lt
    have hne:g≠wc.heap.size:=by omega
    have hwh:w.heap.size≤wc.heap.size:=HT2.out.size
    have hA0:=and1_u8 m hm0 hm1
    have hA1:=and1_u8 (m / 2) (by omega) (by omega)
    clear hand
    rcases hrel with ⟨rfl,hb,hr,ht⟩|⟨rfl,hb,hr,ht⟩|⟨rfl,hb,hr,ht⟩
    ·have HBr:=Hm hb
     have HRr:=Hm hr
     have HTr:=Hm ht
     clear hb hr ht
     by_cases b0:m%2=1
     ·obtain ⟨x,S',hF⟩:∃x S',floatR ver st2=(x,S'):=⟨_,_,rfl⟩
      have HTF:=Hm (fun w h=>vtf_any g d st2 ver w h)
      rw [hF] at HTF
      simp only at HTF
      have HP:Hid (partR (decide (m%2=1)) st2=(x,if x=0 then giveS S' 3 else S')):=Hm (by unfold partR;rw [decide_eq_true b0,if_pos rfl,←floatR_ne h1,hF])
      have HF3:=Hm (fun w h=>fail_any g d S' 3 w h)
      clear hF
      by_cases x0:x=0
      ·have hx:(x:Int)=0:=by omega
       rw [hx] at HTF
       have HX:=Hm hx
       have HX0:=Hm x0
       clear hx x0
       go_wp2_with (first
        |(go_at_call 153;refine (HTF.out _ HRr.out).mono ?_;rintro e w1 ⟨rfl,hr1,ht1⟩;have HB1:=Hm (HBr.out.tch ht1 hne.symm);have k1:=HB1.out.cell;have f1:=HB1.out.frozen;have z1:=HB1.out.lt;have HR1:=Hm (hr1.tch ((Tch.refl wc.heap.size w1).set 0 (.int .u64 0)) hne.symm (.inr (Nat.le_of_lt hgh)));have HT1:=Hm ht1;clear hr1 ht1)
        |(go_at_call 53;refine (HF3.out _ HR1.out).mono ?_;rintro e w3 ⟨rfl,hr3,ht3⟩;have HR3:=Hm hr3;have HT3:=Hm ht3;clear hr3 ht3))
       go_roundw
       case rel=>
        refine .inr (.inl ⟨rfl, ?_, ?_, ?_⟩)
        ·rw [HP.out,HX.out];exact (HB1.out.set 0 _).tch HT3.out hne.symm
        ·rw [HP.out,if_pos HX0.out];exact HR3.out
        ·exact ((HTr.out.trans HT1.out).setNew hwh _ _).trans HT3.out
       case measure=>simp [intOf]
      ·have x1:((x:Int)==0)=false:=by simpa using x0
       go_wp2_with (first
        |(go_at_call 153;refine (HTF.out _ HRr.out).mono ?_;rintro e w1 ⟨rfl,hr1,ht1⟩;have HB1:=Hm (HBr.out.tch ht1 hne.symm);have k1:=HB1.out.cell;have f1:=HB1.out.frozen;have z1:=HB1.out.lt;have HR1:=Hm (hr1.tch ((Tch.refl wc.heap.size w1).set 0 (.int .u64 x)) hne.symm (.inr (Nat.le_of_lt hgh)));have HT1:=Hm ht1;clear hr1 ht1))
       go_roundw
       case rel=>
        refine .inr (.inl ⟨rfl, ?_, ?_, ?_⟩)
        ·rw [HP.out];exact HB1.out.set 0 _
        ·rw [HP.out,if_neg x0];exact HR1.out
        ·exact (HTr.out.trans HT1.out).setNew hwh _ _
       case measure=>simp [intOf]
     ·have HP:Hid (partR (decide (m%2=1)) st2=(0,st2)):=Hm (by unfold partR;rw [decide_eq_false b0];rfl)
      have b1:m%2=0:=by omega
      clear b0
      go_wp2
      go_roundw
      case rel=>
       refine .inr (.inl ⟨rfl, ?_, ?_, ?_⟩)
       ·rw [HP.out];exact HBr.out
       ·rw [HP.out];exact HRr.out
       ·exact HTr.out
      case measure=>simp [intOf]
    ·obtain ⟨P0,hP0⟩:∃P0,P0=partR (decide (m%2=1)) st2:=⟨_,rfl⟩
     have HPP:=Hm hP0
     rw [←hP0] at hb hr
     clear hP0
     obtain ⟨p0,S0⟩:=P0
     simp only at hb hr
     have HBr:=Hm hb
     have HRr:=Hm hr
     have HTr:=Hm ht
     clear hb hr ht
     by_cases b0:m / 2%2=1
     ·obtain ⟨x,S',hF⟩:∃x S',floatR ver S0=(x,S'):=⟨_,_,rfl⟩
      have HTF:=Hm (fun w h=>vtf_any g d S0 ver w h)
      rw [hF] at HTF
      simp only at HTF
      have HP:Hid (partR (decide (m / 2%2=1)) S0=(x,if x=0 then giveS S' 3 else S')):=Hm (by unfold partR;rw [decide_eq_true b0,if_pos rfl,←floatR_ne h1,hF])
      have HF3:=Hm (fun w h=>fail_any g d S' 3 w h)
      clear hF
      by_cases x0:x=0
      ·have hx:(x:Int)=0:=by omega
       rw [hx] at HTF
       have HX:=Hm hx
       have HX0:=Hm x0
       clear hx x0
       go_wp2_with (first
        |(go_at_call 153;refine (HTF.out _ HRr.out).mono ?_;rintro e w1 ⟨rfl,hr1,ht1⟩;have HB1:=Hm (HBr.out.tch ht1 hne.symm);have k1:=HB1.out.cell;have f1:=HB1.out.frozen;have z1:=HB1.out.lt;have HR1:=Hm (hr1.tch ((Tch.refl wc.heap.size w1).set 1 (.int .u64 0)) hne.symm (.inr (Nat.le_of_lt hgh)));have HT1:=Hm ht1;clear hr1 ht1)
        |(go_at_call 53;refine (HF3.out _ HR1.out).mono ?_;rintro e w3 ⟨rfl,hr3,ht3⟩;have HR3:=Hm hr3;have HT3:=Hm ht3;clear hr3 ht3))
       go_roundw
       case rel=>
        refine .inr (.inr ⟨rfl, ?_, ?_, ?_⟩)
        ·rw [←HPP.out,HP.out,HX.out];exact (HB1.out.set 1 _).tch HT3.out hne.symm
        ·rw [←HPP.out,HP.out,if_pos HX0.out];exact HR3.out
        ·exact ((HTr.out.trans HT1.out).setNew hwh _ _).trans HT3.out
       case measure=>simp [intOf]
      ·have x1:((x:Int)==0)=false:=by simpa using x0
       go_wp2_with (first
        |(go_at_call 153;refine (HTF.out _ HRr.out).mono ?_;rintro e w1 ⟨rfl,hr1,ht1⟩;have HB1:=Hm (HBr.out.tch ht1 hne.symm);have k1:=HB1.out.cell;have f1:=HB1.out.frozen;have z1:=HB1.out.lt;have HR1:=Hm (hr1.tch ((Tch.refl wc.heap.size w1).set 1 (.int .u64 x)) hne.symm (.inr (Nat.le_of_lt hgh)));have HT1:=Hm ht1;clear hr1 ht1))
       go_roundw
       case rel=>
        refine .inr (.inr ⟨rfl, ?_, ?_, ?_⟩)
        ·rw [←HPP.out,HP.out];exact HB1.out.set 1 _
        ·rw [←HPP.out,HP.out,if_neg x0];exact HR1.out
        ·exact (HTr.out.trans HT1.out).setNew hwh _ _
       case measure=>simp [intOf]
     ·have HP:Hid (partR (decide (m / 2%2=1)) S0=(0,S0)):=Hm (by unfold partR;rw [decide_eq_false b0];rfl)
      have b1:m / 2%2=0:=by omega
      clear b0
      go_wp2
      go_roundw
      case rel=>
       refine .inr (.inr ⟨rfl, ?_, ?_, ?_⟩)
       ·rw [←HPP.out,HP.out];exact HBr.out
       ·rw [←HPP.out,HP.out];exact HRr.out
       ·exact HTr.out
      case measure=>simp [intOf]
    ·have HRr:=Hm hr
     have HTr:=Hm ht
     generalize partR (decide (m%2=1)) st2=P0 at*
     obtain ⟨p0,S0⟩:=P0
     simp only at*
     generalize partR (decide (m / 2%2=1)) S0=P1 at*
     obtain ⟨p1,S1⟩:=P1
     simp only at*
     have k1:=hb.cell
     clear hr ht hb
     go_wp2_with (go_at_call 152;refine (vof_any p0 p1 _).mono ?_;rintro e w3 ⟨rfl,rfl⟩)
     go_ret
     exact ⟨by first|rfl|simp,HRr.out,HTr.out⟩
def RF (w:World) (g d:Nat) (st:RS):Prop:=∃v L at',Blk w g #[v, .int .i64 (at' :Nat), .int .i64 st.e] 91∧SB w g d v L∧at'≤L.length∧st.l=(if st.e=0 then L.drop at' else [])∧isB L∧L.length≤1000000
theorem RF.ext {w w1:World} {g d:Nat} {st:RS} (hr:RF w g d st) (he:Ext w w1):RF w1 g d st:=by
 obtain ⟨v,L,a,h1,h2,h3⟩:=hr
 exact ⟨v,L,a,h1.ext he,h2.ext he,h3⟩
theorem RF.drewN {w:World} {g d:Nat} {st:RS} (hr:RF w g d st) (n:Nat):RF (w.drewN n) g d st:=hr.ext ((Ext.refl w).drewN n)
theorem RF.tch {w w1:World} {g d h:Nat} {st:RS} (hr:RF w g d st) (he:Tch h w w1) (hg:h≠g) (hd:h<d∨g≤h):RF w1 g d st:=by
 obtain ⟨v,L,a,h1,h2,h3⟩:=hr
 exact ⟨v,L,a,h1.tch he hg.symm,h2.tch he hd,h3⟩
theorem RF.lt {w:World} {g d:Nat} {st:RS} (hr:RF w g d st):g<w.heap.size:=by obtain ⟨v,L,a,h1,_⟩:=hr;exact h1.lt
theorem RF.ok {w:World} {g d:Nat} {st:RS} (hr:RF w g d st):st.ok:=by
 obtain ⟨v,L,a,_,_,_,hl,hb,_⟩:=hr
 refine ⟨fun h=>by rw [hl,if_neg h], ?_⟩
 rw [hl];split;exact hb.drop _;exact isB.nil
def FPost (g d:Nat) (w:World) (r:Value) (st:RS) (e:Ending) (w' :World):Prop:=e= .returned r∧RF w' g d st∧Tch g w w'
theorem fgive_any (g d:Nat) (st:RS) (x:Int) (w:World) (h:RF w g d st) (hx:x≠0):
 Calls Tryz.prog 30 #[.pointer (some ⟨g,0,none⟩), .int .i64 x] w (FPost g d w (.tuple #[]) (giveS st x)):=by
 obtain ⟨v,L,a,hb,hsb,hat,hl,hB,hlen⟩:=h
 have hc:=hb.cell
 have hf:=hb.frozen
 have hlt:=hb.lt
 have HB:=Hm hb
 have HS:=Hm hsb
 have HL:=Hm hl
 clear hb hsb hl
 by_cases he:st.e=0
 ·rw [he] at hc HB
  have HE:=Hm he
  clear he
  go_enter Tryz.func30,Tryz.ntmps30
  go_wp2
  go_end0
  refine ⟨rfl, ?_,(Tch.refl g w).set 2 _⟩
  unfold giveS;rw [if_pos HE.out]
  exact ⟨_,L,a,HB.out.set 2 _,HS.out.tch ((Tch.refl g w).set 2 _) (.inr (Nat.le_refl _)),hat,by simp [hx],hB,hlen⟩
 ·have he2:(st.e==0)=false:=by simpa using he
  have HE:=Hm he
  clear he
  go_enter Tryz.func30,Tryz.ntmps30
  go_wp2
  go_end0
  exact ⟨rfl,by unfold giveS;rw [if_neg HE.out];exact ⟨_,L,a,HB.out,HS.out,hat,HL.out,hB,hlen⟩,Tch.refl g w⟩
theorem fleft_any (g d:Nat) (st:RS) (w:World) (h:RF w g d st):
 Calls Tryz.prog 56 #[.pointer (some ⟨g,0,none⟩)] w fun e w' =>e= .returned (.int .i64 st.l.length)∧∃m,w' =w.drewN m:=by
 obtain ⟨v,L,a,hb,⟨ad,cap,rfl, -, -, -⟩,hat,hl,hB,hlen⟩:=h
 have hc:=hb.cell
 clear hb
 by_cases he:st.e=0
 ·rw [he] at hc
  have hll:st.l.length=L.length - a:=by rw [hl,if_pos he,List.length_drop]
  have HLL:Hid ((st.l.length:Int)=(L.length:Int) - (a:Int)):=Hm (by rw [hll];omega)
  clear he hl hll
  go_enter Tryz.func56,Tryz.ntmps56
  go_wp2
  go_quiet (fail)
  go_wp2
  go_ret
  exact ⟨ret_int (by rw [HLL.out]),nq,rfl⟩
 ·have he2:(st.e !=0)=true:=by simpa using he
  have HL:Hid (st.l.length=0):=Hm (by rw [hl,if_neg he];rfl)
  clear he hl
  go_enter Tryz.func56,Tryz.ntmps56
  go_wp2
  go_ret
  exact ⟨ret_int (by rw [HL.out];rfl),0,rfl⟩
end Go.Proofs.YtodbhliidbclcaaGreat
