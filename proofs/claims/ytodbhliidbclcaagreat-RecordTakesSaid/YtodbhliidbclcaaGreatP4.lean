import Derived.Lib.ConvBytes
import Derived.Deep.AppendLies
import Derived.Laws.AppendOwnNone
import Derived.Test.YtodbhliidbclcaaGreatP3
set_option maxRecDepth 100000
set_option maxHeartbeats 16000000

namespace Go.Proofs.YtodbhliidbclcaaGreat
open Go.RowKit
theorem byte_step (x:Int) (k:Nat):x / 2 ^ (8*k) / 256=x / 2 ^ (8*(k+1)):=by
 rw [Nat.mul_succ,Int.pow_add,Int.ediv_ediv_of_nonneg (Int.pow_nonneg (by decide))];rfl
theorem rword_any (x:Int) (w:World) (h0:0≤x) (h1:x<18446744073709551616):
 Calls Tryz.prog 186 #[.int .u64 x] w fun e w' =>∃v',e= .returned v'∧OB w' w.heap.size v' (wordL x)∧Ext w w' :=by
 obtain ⟨i0,hi,hz0,hz1,hz2⟩:=info_parts Tryz.infoU8
 go_enter Tryz.func186,Tryz.ntmps186
 go_wp2
 go_loopw [0,3,4] (fun t v i wr=>∃(k:Nat) (m:Int),k≤8∧t= .int .u64 m∧0≤m∧m<18446744073709551616∧i= .int .i64 k∧Hid (m=x / 2 ^ (8*k))∧Hid (OB wr w.heap.size v ((List.range k).map (byteAt x)))∧Hid (Ext w wr)) (fun _ _ i _=>8 - (intOf i).toNat)
 case atStart=>exact ⟨0,x,by omega,rfl,h0,h1,rfl,Hm (by simp),Hm (OB.nil _ _),Hm (Ext.refl _)⟩
 case round=>
  obtain ⟨k,m,hk,rfl,hm0,hm1,rfl,hm,hown,hE⟩:=hrel
  by_cases hlt:k<8
  ·go_wp2_with (at_builtin;refine wpList_append_own _ rfl _ _ 23 rfl w.heap.size 5 i0 _ 1 1 Tryz.underlying23 hi hz0 hz1 hz2 rfl (by decide) _ _ _ rfl (hown.out.alloc _) ⟨_,0,none⟩ 1 1 (bs [m%256]) rfl rfl ?c1 ?c2 ?c3 ?c4 ?c5 ?_)
   case c1=>exact cells_one _ _
   case c2=>exact bs_one _
   case c3=>unfold maxLen;simp;omega
   case c4=>simp;omega
   case c5=>have:=hE.out.size;simp;omega
   intro v' w2 hown' hgrow _
   have hE2:=OB.grown (hE.out.alloc _) (hown.out.alloc _) hgrow
   have HO:=Hm (OB.push hown' (by simp))
   have HE2:=Hm hE2
   clear hown' hgrow hE2
   go_wp2
   go_roundw
   case rel=>exact ⟨k+1,m / 256,by omega,rfl,by omega,by omega,by go_num,Hm (by rw [hm.out];exact byte_step x k),Hm (by rw [List.range_succ,List.map_append];have h:=HO.out;rw [hm.out] at h;exact h),HE2⟩
   case measure=>simp [intOf];omega
  ·have hkk:k=8:=by omega
   subst hkk
   go_wp2
   go_ret
   exact ⟨_,rfl,hown.out,hE.out⟩
def rv (x:Nat):Nat→Nat
 |0=>0
 |k+1=>256*rv x k+x / 256 ^ k%256
theorem rv_8 (x:Nat):rv x 8=rev x:=by simp [rv,rev]
theorem rv_lt (x:Nat):∀k,k<8→rv x k<72057594037927936:=by
 intro k hk
 have h:k=0∨k=1∨k=2∨k=3∨k=4∨k=5∨k=6∨k=7:=by omega
 rcases h with rfl|rfl|rfl|rfl|rfl|rfl|rfl|rfl<;>simp [rv]<;>omega
theorem word_get (x:Nat) {k:Nat} (hk:k<8):(wordL (x:Int)).getD k 0=((x / 256 ^ k%256:Nat):Int):=by
 have h:((2:Int) ^ (8*k))=((256 ^ k:Nat):Int):=by rw [show (256:Nat)=2 ^ 8 from rfl,←Nat.pow_mul,Int.natCast_pow];rfl
 simp only [wordL,byteAt,List.getD,List.getElem?_map,List.getElem?_range hk,Option.map_some,Option.getD_some,h,Int.natCast_emod,Int.natCast_ediv]
 rfl
theorem rturned_any (x:Nat) (w:World) (hx:x<2 ^ 64):
 Calls Tryz.prog 179 #[.int .u64 x] w fun e w' =>e= .returned (.int .u64 (rev x))∧Ext w w' :=by
 go_enter Tryz.func179,Tryz.ntmps179
 go_wp2_with (go_at_call 186;refine (rword_any x _ (by omega) (by omega)).mono ?_;rintro e w1 ⟨v1,rfl,ho1,hb1⟩;have HO1:=Hm ho1;have HE1:=Hm hb1;clear ho1 hb1)
 obtain ⟨a,cap,hv,hs⟩:=HO1.out.sl
 subst hv
 have hn:((wordL (x:Int)).map bcell).length=8:=by rw [List.length_map,wordL_len]
 rw [hn]
 rcases hs with h0|⟨b,o,rfl,hb,hc⟩
 ·rw [h0] at hn;cases hn
 have HC:Hid (∀k,k<8→w1.cell? ⟨b,o+k,none⟩=some (.int .u8 ((x / 256 ^ k%256:Nat):Int))):=Hm (fun k hk=>by
  have:=hc k (by rw [hn];exact hk) 0 (by omega)
  rw [Nat.mul_one,Nat.add_zero] at this
  rw [this,←word_get x hk]
  simp [bcell,List.getD,List.getElem?_map,List.getElem?_eq_getElem (show k<(wordL (x:Int)).length by rw [wordL_len];exact hk)])
 clear hc hn HO1
 go_wp2
 go_loop [4,5] (fun t i=>∃k:Nat,k≤8∧i= .int .i64 k∧t= .int .u64 (rv x k)) (fun _ i=>8 - (intOf i).toNat)
 case atStart=>exact ⟨0,by omega,rfl,rfl⟩
 case round=>
  obtain ⟨k,hk,rfl,rfl⟩:=hrel
  by_cases hlt:k<8
  ·have h1:=rv_lt x k hlt
   have h2:=HC.out k hlt
   obtain ⟨q,hq⟩:∃q:Nat,q=x / 256 ^ k%256:=⟨_,rfl⟩
   rw [←hq] at h2
   have h3:q<256:=by omega
   have HN:Hid (((rv x (k+1):Nat):Int)=256*(rv x k:Int)+(q:Int)):=Hm (by rw [rv,←hq];push_cast;rfl)
   clear hq
   go_wp2
   go_round
   case rel=>exact ⟨k+1,by omega,by go_num,by rw [HN.out]⟩
   case measure=>simp [intOf];omega
  ·have hkk:k=8:=by omega
   subst hkk
   have HN:Hid (((rv x 8:Nat):Int)=rev x):=Hm (by rw [rv_8])
   go_wp2
   go_ret
   exact ⟨ret_int HN.out,HE1.out⟩
theorem ext_bytesWorld (w:World) (e:TypeId) (s:ByteArray):Ext w (Go.Lib.bytesWorld w e s):=
 ⟨rfl,rfl,rfl,by rw [Go.Lib.bytesWorld_size];omega,fun k hk=>Go.Lib.bytesWorld_at_old w e s k hk⟩
theorem conv_str (w:World) (s:ByteArray):(convert 9 23 (.string s)).run Tryz.prog w= .ok (.slice (some ⟨w.heap.size,0,none⟩) s.size (grownCap w s.size 0 5)) (Go.Lib.bytesWorld w 5 s):=
 Go.Lib.run_convert_string_bytes w _ _ _ s Tryz.underlying9 Tryz.underlying23 Tryz.underlying5
theorem conv_Sl {w:World} {v:Value} {l:List Int} (h:Sl w v 1 (l.map bcell)):(convert 23 9 v).run Tryz.prog w= .ok (.string (strOfNums l)) w:=by
 have h0:=h
 obtain ⟨a,cap,rfl,hs⟩:=h
 rcases hs with hn|⟨b,o,rfl,hb,hc⟩
 ·have hl:l= []:=by simpa using hn
  subst hl
  cases a with
  |none=>exact run_convert_bytes_nil w _ _ Tryz.underlying23 Tryz.underlying5 _ _ _ Tryz.underlying9
  |some ad=>
   rw [run_convert_bytes_string w _ _ _ _ _ _ Tryz.underlying23 Tryz.underlying5 Tryz.underlying9]
   have hl:(loadCells ad 0).run Tryz.prog w= .ok (([]:List Int).map (Value.int .u8)).toArray w:=by
    have:=run_loadCells_list (P:=Tryz.prog) w ad [] (fun j v hj=>by simp at hj)
    simpa using this
   exact run_bytesToString w ad 0 cap [] hl
 ·simp only [List.length_map] at*
  refine run_convert_bytes_arg w _ _ Tryz.underlying23 Tryz.underlying5 b o _ cap l rfl (fun i hi=> ?_) _ Tryz.underlying9
  exact (Sl.bytes h0 (by omega)).2.2 i hi
theorem fresh_bytes (w:World) (l:List Int) (n:Nat) (hn:n=l.length):Sl (w.alloc (.cells (bs l).toArray 5)) (.slice (some ⟨w.heap.size,0,none⟩) n n) 1 (l.map bcell):=by
 subst hn
 have:=Sl.new w (bs l).toArray 5 1 l.length l.length (l.map bcell) (by rw [bs_flat]) (by intro xs hxs;simp at hxs;obtain ⟨x,_,rfl⟩:=hxs;rfl) (by simp)
 exact this
def valL:List Int→Nat
 | []=>0
 |x::l=>(x%128).toNat+128*valL l
theorem valL_snoc:∀(l:List Int) (x:Int),valL (l++ [x])=valL l+(x%128).toNat*128 ^ l.length:=by
 intro l
 induction l with
 |nil=>intro x;simp [valL]
 |cons y l ih=>intro x;rw [List.cons_append,valL,ih,valL,List.length_cons,Nat.pow_succ,Nat.mul_add,←Nat.mul_assoc,Nat.mul_comm 128 ((x%128).toNat),Nat.mul_assoc,Nat.mul_comm 128 (128 ^ l.length)];omega
theorem digs_run:∀(n:Nat) (l:List Int) (k v:Nat),k+n≤9→n≤l.length→(∀i,i<n→128≤l.getD i 0)→digs l k v=digs (l.drop n) (k+n) (v+valL (l.take n)*128 ^ k):=by
 intro n
 induction n with
 |zero=>intro l k v _ _ _;simp [valL]
 |succ n ih=>
  intro l k v hk hn h
  cases l with
  |nil=>simp at hn
  |cons x l=>
   have hx:128≤x:=by simpa using h 0 (by omega)
   rw [digs,if_neg (by omega),if_pos hx,ih l (k+1) _ (by omega) (by simpa using hn) (fun i hi=>by simpa using h (i+1) (by omega))]
   rw [List.drop_succ_cons,List.take_succ_cons,valL,Nat.add_mul,show k+1+n=k+(n+1) by omega]
   congr 1
   rw [Nat.pow_succ,Nat.mul_comm (128 ^ k) 128,Nat.mul_right_comm,Nat.add_assoc,Nat.mul_comm (128*128 ^ k)]
theorem digs_ten (l:List Int) (h:10≤l.length) (hb:∀i,i<10→128≤l.getD i 0):digs l 0 0=(0,0,5):=by
 rw [digs_run 9 l 0 0 (by omega) (by omega) (fun i hi=>hb i (by omega))]
 have e:l.drop 9=l.getD 9 0::l.drop 10:=by
  rw [List.drop_eq_getElem_cons (by omega)];simp [List.getD,List.getElem?_eq_getElem (show 9<l.length by omega)]
 have:=hb 9 (by omega)
 rw [e,digs,if_pos ⟨by omega,by omega⟩]
theorem digs_short (l:List Int) (n:Nat) (hn:n=l.length) (h9:n≤9) (hb:∀i,i<n→128≤l.getD i 0):digs l 0 0=(0,0,1):=by
 rw [digs_run n l 0 0 (by omega) (by omega) hb,hn,List.drop_length];rfl
theorem digs_at (l:List Int) (n:Nat) (hn:n<l.length) (h9:n≤9) (hb:∀i,i<n→128≤l.getD i 0) (hx:l.getD n 0<128):
 digs l 0 0=if n=9∧1<l.getD n 0 then (0,0,5) else if 1≤n∧l.getD n 0=0 then (0,0,5) else (valL (l.take (n+1)),n+1,0):=by
 have e:l.drop n=l.getD n 0::l.drop (n+1):=by
  rw [List.drop_eq_getElem_cons hn];simp [List.getD,List.getElem?_eq_getElem hn]
 have e2:l.take (n+1)=l.take n++ [l.getD n 0]:=by
  rw [List.take_succ_eq_append_getElem hn];simp [List.getD,List.getElem?_eq_getElem hn]
 have e3:(l.take n).length=n:=by simp;omega
 rw [digs_run n l 0 0 (by omega) (by omega) hb,e,digs,e2,valL_snoc,e3]
 simp only [Nat.zero_add,Nat.pow_zero,Nat.mul_one]
 split
 ·rfl
 ·rw [if_neg (by omega)]
theorem giveS_e {st:RS} {e:Int} (he:e≠0):(giveS st e).e≠0:=by unfold giveS;split;exact he;assumption
def gone:RS:=⟨[],1⟩
def largeR (st:RS):Nat×RS:=let r:=uintR 2048 st;(r.1,if r.1≤64 then giveS r.2 4 else r.2)
def fullT (kind:Int):K:=⟨2,⟨kind,0,0,0,ByteArray.empty⟩⟩
def textK (kind:Int) (q:List Int×RS):(K×Nat)×RS:=((⟨2,⟨kind,0,0,0,strOfNums q.1⟩⟩,0),failS q.2 (rightV kind 0 (0:Nat) (0:Nat) (strOfNums q.1)))
def firstC (kind:Int) (st:RS):(K×Nat)×RS:=
 let t:=byteR st
 if t.2.e≠0 then ((K.zero,0),t.2)
 else if 2<t.1∨(t.1≠1∧kind≠5∧kind≠6) then ((K.zero,0),giveS t.2 7)
 else if t.1=0 then ((⟨1,V.zero⟩,0),t.2)
 else if t.1=2 then let q:=largeR t.2;((fullT kind,q.1),q.2)
 else if kind=5∨kind=6 then textK kind (textR 64 t.2)
 else let q:=takeV kind 1 t.2;((⟨2,q.1⟩,0),q.2)
def secondC (kind:Int) (st:RS):(K×Nat)×RS:=
 let t:=uintR 66 st
 if t.2.e≠0 then ((K.zero,0),t.2)
 else if t.1=0 then ((⟨1,V.zero⟩,0),t.2)
 else if t.1=1 then let q:=largeR t.2;((fullT kind,q.1),q.2)
 else textK kind (bytesR (t.1 - 2) t.2)
def preC (kind ver:Int) (st:RS):(K×Nat)×RS:=
 if ¬ (ver=1∨ver=2) then ((K.zero,0),giveS st 18)
 else if kind<1∨6<kind then ((K.zero,0),giveS st 11)
 else if ver=1 then firstC kind st
 else if kind=5∨kind=6 then secondC kind st
 else let q:=takeV kind 2 st;((⟨2,q.1⟩,0),q.2)
def finC (r:(K×Nat)×RS):(K×Nat)×RS:=if r.2.e≠0 then ((K.zero,0),r.2) else r
def takeC (kind ver:Int) (st:RS):(K×Nat)×RS:=finC (preC kind ver st)
theorem byteR_cons (x:Int) (l:List Int) (e:Int):byteR ⟨x::l,e⟩=(x,⟨l,e⟩):=by
 unfold byteR bytesR;simp
theorem finC_ok {r:(K×Nat)×RS} (h:r.2.e=0):finC r=r:=by unfold finC;rw [if_neg (by simpa using h)]
def larges (l:List K):Nat→List (Nat×ByteArray)
 |0=> []
 |k+1=>if h:k<l.length then (if largeB l[k].k l[k].v.ty l[k].v.s=true then larges l k++ [(k,l[k].v.s)] else larges l k) else larges l k
theorem larges_len (l:List K):∀k,(larges l k).length≤k
 |0=>Nat.le_refl _
 |k+1=>by
  have:=larges_len l k
  unfold larges
  split
  ·split
   ·rw [List.length_append,List.length_singleton];omega
   ·omega
  ·omega
structure Ho where
 c:Int
 n:Int
def Ho.cells (h:Ho):List Value:= [.int .i64 h.c, .int .i64 h.n]
def strC (s:ByteArray):List Value:= [.string s]
def setText (l:List K) (i:Nat) (s:ByteArray):List K:=if h:i<l.length then l.set i ⟨l[i].k, { l[i].v with s:=s }⟩ else l
theorem setText_len (l:List K) (i:Nat) (s:ByteArray):(setText l i s).length=l.length:=by unfold setText;split<;>simp
def fillUp (l:List K) (hs:List Ho) (ts:List ByteArray):Nat→List K
 |0=>l
 |k+1=>if h:k<hs.length∧k<ts.length then setText (fillUp l hs ts k) (hs[k]'h.1).c.toNat (ts[k]'h.2) else fillUp l hs ts k
theorem fillUp_succ {l:List K} {hs:List Ho} {ts:List ByteArray} {k:Nat} (h1:k<hs.length) (h2:k<ts.length):fillUp l hs ts (k+1)=setText (fillUp l hs ts k) hs[k].c.toNat ts[k]:=by
 conv=>lhs;unfold fillUp
 rw [dif_pos ⟨h1,h2⟩]
theorem fillUp_len (l:List K) (hs:List Ho) (ts:List ByteArray):∀k,(fillUp l hs ts k).length=l.length
 |0=>rfl
 |k+1=>by
  unfold fillUp
  split
  ·rw [setText_len,fillUp_len l hs ts k]
  ·exact fillUp_len l hs ts k
def holeBad (n:Nat) (hs:List Ho) (i:Nat):Int:=if h:i<hs.length then (if hs[i].c<0∨(n:Int)≤hs[i].c then 4 else 0) else 0
def sizeBad (hs:List Ho) (ts:List ByteArray) (i:Nat):Int:=if h:i<hs.length∧i<ts.length then (if ((ts[i]'h.2).size:Int)≠(hs[i]'h.1).n then 16 else 0) else 0
def fillE (l:List K) (hs:List Ho) (ts:List ByteArray):Int:=
 if hs.length≠ts.length then 17 else if firstE (holeBad l.length hs) hs.length≠0 then 4 else if firstE (sizeBad hs ts) hs.length≠0 then 16 else 0
def fillW (l:List K) (hs:List Ho) (ts:List ByteArray):List K:=if fillE l hs ts=0 then fillUp l hs ts hs.length else []
end Go.Proofs.YtodbhliidbclcaaGreat
