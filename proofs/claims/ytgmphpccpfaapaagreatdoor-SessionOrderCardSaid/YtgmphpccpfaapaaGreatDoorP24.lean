/-
Arguments of the common types, opened: numbers, strings, slices of anything.
-/
import Derived.Carry
import Derived.Deep.CutBlock
import Derived.Test.YtgmphpccpfaapaaGreatDoorP23
import Derived.Test.YtgmphpccpfaapaaGreatDoorP13
import Derived.Test.YtgmphpccpfaapaaGreatDoorP22
import Derived.Test.YtgmphpccpfaapaaGreatDoorP21
set_option maxRecDepth 100000
set_option maxHeartbeats 16000000
namespace Go.Proofs.YtgmphpccpfaapaaGreatDoor
open Go.RowKit Go.ChangeShapes Go.WideShapes Go.ChangeAt
theorem Tryz.ownG:ownKnob Tryz.prog.godebug=none:=by kernel_rfl
theorem Tryz.laidOutG:laidOutB Tryz.prog=true:=by kernel_rfl
theorem wfG_u8 {n:Int} (h:(Lit.int .u8 n).wf=true):0≤n∧n<256:=by
 simp [Lit.wf,IntKind.min,IntKind.max,IntKind.signed,IntKind.bits] at h;omega
theorem wfG_u32 {n:Int} (h:(Lit.int .u32 n).wf=true):0≤n∧n<4294967296:=by
 simp [Lit.wf,IntKind.min,IntKind.max,IntKind.signed,IntKind.bits] at h;omega
theorem wfG_u64 {n:Int} (h:(Lit.int .u64 n).wf=true):0≤n∧n<18446744073709551616:=by
 simp [Lit.wf,IntKind.min,IntKind.max,IntKind.signed,IntKind.bits] at h;omega
theorem wfG_i64 {n:Int} (h:(Lit.int .i64 n).wf=true): -9223372036854775808≤n∧n<9223372036854775808:=by
 simp [Lit.wf,IntKind.min,IntKind.max,IntKind.signed,IntKind.bits] at h;omega
section
variable {H : Type} {enc : TypeId × Value → H} {w : World} {base : Nat} {spare : Nat → Bool} {held : Bool} {r : Reach} {base2 : Nat} {v : Value} {d : DataW H} {ps : List MemPlace}
end
end Go.Proofs.YtgmphpccpfaapaaGreatDoor
namespace Go.Proofs.YtgmphpccpfaapaaGreatDoor
open Go.RowKit Go.ChangeShapes Go.WideShapes Go.ChangeAt
theorem Tryz.flatCellG:flat Tryz.prog 4 101=some [5,5,2,39,39,9]:=by kernel_rfl
section
variable {H : Type} {enc : TypeId × Value → H} {w : World} {base : Nat} {spare : Nat → Bool} {held : Bool} {r : Reach} {base2 : Nat} {v : Value} {d : DataW H} {ps : List MemPlace}
theorem openC_list {n:Nat} {cs:List Value} {x:DataW H×List MemPlace} (h:DataW.trod enc Tryz.prog w base spare held n 101 cs=some x):
 ∃(k ty m:Int) (a b:Nat) (s:ByteArray),cs= [.int .u8 k, .int .u8 ty, .int .i64 m, .int .u64 a, .int .u64 b, .string s]∧(0≤k∧k<256)∧(0≤ty∧ty<256)∧(-9223372036854775808≤m∧m<9223372036854775808)∧a<2 ^ 64∧b<2 ^ 64∧s.size≤9223372036854775807:=by
 have hl:=flat_open 4 _ _ n cs x Tryz.flatCellG h
 match cs,hl with
 | [c0,c1,c2,c3,c4,c5],⟨l0,l1,l2,l3,l4,l5,_⟩=>
  obtain ⟨k,rfl,h0⟩:=l0.int Tryz.underlying5
  obtain ⟨ty,rfl,h1⟩:=l1.int Tryz.underlying5
  obtain ⟨m,rfl,h2⟩:=l2.int Tryz.underlying2
  obtain ⟨a,rfl,h3⟩:=l3.int Tryz.underlying39
  obtain ⟨b,rfl,h4⟩:=l4.int Tryz.underlying39
  obtain ⟨s,rfl,h5⟩:=l5.string Tryz.underlying9
  obtain ⟨a,rfl⟩:=Int.eq_ofNat_of_zero_le (wfG_u64 h3).1
  obtain ⟨b,rfl⟩:=Int.eq_ofNat_of_zero_le (wfG_u64 h4).1
  exact ⟨k,ty,m,a,b,s,rfl,wfG_u8 h0,wfG_u8 h1,wfG_i64 h2,by have:=(wfG_u64 h3).2;omega,by have:=(wfG_u64 h4).2;omega,h5⟩
end
end Go.Proofs.YtgmphpccpfaapaaGreatDoor
namespace Go.Proofs.YtgmphpccpfaapaaGreatDoor
open Go.RowKit Go.ChangeShapes Go.WideShapes Go.ChangeAt
theorem Tryz.flatColG:flat Tryz.prog 4 103=some [9,5,4]:=by kernel_rfl
theorem Tryz.flatRelG:flat Tryz.prog 4 44=some [38,38,9,5,42]:=by kernel_rfl
theorem Tryz.cellsColG:Tryz.prog.cellsOf 103=3:=by kernel_rfl
end Go.Proofs.YtgmphpccpfaapaaGreatDoor
namespace Go.Proofs.YtgmphpccpfaapaaGreatDoor
open Go.RowKit Go.ChangeShapes Go.WideShapes Go.ChangeAt
theorem Tryz.cellsCellG:Tryz.prog.cellsOf 101=6:=by kernel_rfl
structure K.tw (c:K):Prop extends K.wk c where
 n: -9223372036854775808≤c.v.n∧c.v.n<9223372036854775808
 x:c.v.x<2 ^ 64
 y:c.v.y<2 ^ 64
section
variable {H : Type} {enc : TypeId × Value → H} {w : World} {base : Nat} {spare : Nat → Bool} {held : Bool} {r : Reach} {base2 : Nat} {v : Value} {d : DataW H} {ps : List MemPlace}
end
end Go.Proofs.YtgmphpccpfaapaaGreatDoor
namespace Go.Proofs.YtgmphpccpfaapaaGreatDoor
open Go.RowKit
structure Ev.tw (e:Ev):Prop where
 b:∀c∈e.b,c.tw
 a:∀c∈e.a,c.tw
 r:∀r∈e.rs,r.u32
 at_:(⟨e.ao,e.av⟩:Rf).u32
theorem cellW_len (c:K) (hn: -9223372036854775808≤c.v.n∧c.v.n≤9223372036854775807):(cellW c).length≤3010:=by
 have h:=spellL_len c.v.ty c.v.n c.v.x c.v.y c.v.s hn
 unfold cellW
 split
 ·simp
 ·split
  ·simp
  ·rw [List.length_cons,List.length_append,octs_len];omega
theorem cellsW_len:∀(l:List K),(∀c∈l, -9223372036854775808≤c.v.n∧c.v.n≤9223372036854775807)→(cellsW l).length≤3010*l.length
 | [],_=>by simp [cellsW]
 |c::l,h=>by
  have h1:=cellW_len c (h c (List.mem_cons_self ..))
  have h2:=cellsW_len l (fun d hd=>h d (List.mem_cons_of_mem _ hd))
  unfold cellsW
  rw [List.length_append,List.length_cons]
  omega
theorem cellsW_take {l:List K} {k:Nat} (h:k<l.length):cellsW (l.take (k+1))=cellsW (l.take k)++cellW l[k]:=by
 rw [List.take_succ_eq_append_getElem h,cellsW_snoc]
theorem wimage_any (g:Nat) (q:Option Nat) (l:List Int) (letter:Int) (ls:List K) (a:Option Addr) (c:Nat) (W0 w:World) (h:WB w g q l) (he:Ext W0 w) (hg:W0.heap.size≤g) (hlen:l.length≤600000000) (hl:Sl W0 (.slice a ls.length c) 5 (ls.map K.pc)) (hn:ls.length≤1000)
 (hb:∀c∈ls, -9223372036854775808≤c.v.n∧c.v.n≤9223372036854775807) (hs:∀c∈ls,c.v.s.size≤9223372036854775807) (ht:Tab W0):
 Calls Tryz.prog 75 #[.pointer (some ⟨g,0,none⟩), .int .u8 letter, .slice a ls.length c] w (WQ g q (l++imgW letter ls) w):=by
 have HL:=Hm hl
 have HT:=Hm ht
 have HNB:=Hm hb
 have HSB:=Hm hs
 have HEE:=Hm (fun q' W (k:Wr w W g q q')=>Wr.ext he h hg k)
 have HGL:=Hm h.lt
 obtain ⟨v,hb1,ho,rfl⟩:=h
 obtain ⟨va,vc,rfl⟩:=ho.shape
 have HB1:=Hm (hb1.alloc (.cells #[.int .u8 letter] 5))
 have HO1:=Hm (ho.alloc (.cells #[.int .u8 letter] 5))
 have c0:=hb1.cell0
 have cf:=hb1.frozen
 have z0:=hb1.lt
 obtain ⟨lv,hlv⟩:∃L,L=l.length:=⟨_,rfl⟩
 rw [←hlv] at HB1 HO1 c0 HEE⊢
 clear hb1 ho hl ht hb hs he
 have hlen2:lv≤600000000:=by omega
 have HLV:=Hm hlv
 clear hlv
 have w1:=u64_small (n:=(ls.length:Int)) (by omega) (by omega)
 go_enter Tryz.func75,Tryz.ntmps75
 go_upto_region 1 with (at_builtin;refine wpList_app_b rfl _ _ rfl (g+1) (.slice va lv vc) l rfl HO1.out (.slice (some ⟨w.heap.size,0,none⟩) 1 1) [letter] rfl (NB.one w letter) ?c1 ?c2 ?_)
 case c1=>simp only [List.length_cons,List.length_nil];omega
 case c2=>have:=HGL.out;simp;omega
 intro v4 w4 ho4 hg4 ha4
 have HP:=Hm (WB.put HB1.out HO1.out ho4 hg4 (ha4.imp (fun e=>e) (fun ⟨b,e,hb⟩=>⟨b,e,by simp;omega⟩)))
 have HB4:=Hm (HB1.out.kp (Kp.of_grown hg4) (fun e=>by have:=(owns_lt3 HO1.out e).1;omega))
 obtain ⟨a4,c4,rfl⟩:=ho4.shape
 obtain ⟨ln,hln⟩:∃L,L=(l++ [letter]).length:=⟨_,rfl⟩
 rw [←hln] at HP⊢
 clear c0 cf z0 ho4 hg4 ha4 hln
 have gw:=HB4.out.cell0
 have gwf:=HB4.out.frozen
 have zw:=HB4.out.lt
 have HR4:=Hm (HP.out.2.pre ((Ext.refl w).alloc (.cells #[.int .u8 letter] 5)))
 go_upto_region 2 with (go_at_call 39;refine (number_any g _ (l++ [letter]) ls.length 1 _ HP.out.1 (by rw [List.length_append,List.length_singleton];omega) (by omega) (by omega)).mono ?_;rintro e w6 ⟨rfl,q6,hw6,hr6⟩;have HW6:=Hm hw6;have HR6:=Hm (HR4.out.trans hr6);clear hw6 hr6 gw gwf zw)
 clear HP HR4 HB4
 go_wp2
 go_loopg [25] ls.length (fun y i wr=>∃(k:Nat) (q' :Option Nat),y+k=ls.length∧i= .int .i64 k∧Hid (WB wr g q' (l++ [letter]++octs ls.length 1++cellsW (ls.take k)))∧Hid (Wr w wr g (Value.slice va lv vc).ownBlock q'))
 case atStart=>exact ⟨0,q6,rfl,rfl,Hm (by rw [List.take_zero];exact (List.append_nil _).symm ▸ HW6.out),HR6⟩
 case round=>
  obtain ⟨k,q',hk,rfl,hW,hR⟩:=hrel
  by_cases hlt:k<ls.length
  ·obtain ⟨b,o,rfl,hb2,hx2⟩:=HL.out.at_ (i:=k) (by simpa using hlt)
   have HE:=Hm (HEE.out _ _ hR.out)
   obtain ⟨f0,f1,f2,f3,f4⟩:=K.pcAt hlt hx2 hb2 HE.out
   have hbw:b<wr.heap.size:=Nat.lt_of_lt_of_le hb2 HE.out.size
   have HCT:=Hm (cellsW_take hlt)
   have HCL:=Hm (cellsW_len (ls.take k) (fun c hc=>HNB.out c (List.mem_of_mem_take hc)))
   have HNC:=Hm (HNB.out _ (List.getElem_mem hlt))
   have HSC:=Hm (HSB.out _ (List.getElem_mem hlt))
   obtain ⟨x,hx⟩:∃x,x=ls[k]'hlt:=⟨_,rfl⟩
   rw [←hx] at f0 f1 f2 f3 f4 HCT HNC HSC
   clear hx hx2 hb2
   have HLT:=Hm hlt
   have i1:(k:Int)<(ls.length:Int):=by omega
   have HWA:=Hm (fun W (h:Ext wr W)=>wcell_any g q' (l++ [letter]++octs ls.length 1++cellsW (ls.take k)) x W (hW.out.ext h) (by
    have h1:=HCL.out
    rw [List.length_take] at h1
    have h2:3010*min k ls.length≤3010*1000:=Nat.mul_le_mul_left _ (by omega)
    have h3:=HLV.out
    simp only [List.length_append,List.length_singleton,octs_len]
    omega) HNC.out HSC.out (HT.out.ext (HE.out.trans h)))
   go_wp2_with (go_at_call 103;refine (HWA.out _ (by exact eX)).mono ?_;rintro e w8 ⟨rfl,q8,hw8,hr8⟩;have HW8:=Hm hw8;have HR8:=Hm (hR.out.trans (hr8.pre (by exact eX)));clear hw8 hr8)
   go_roundg (ls.length - (k+1))
   case measure=>have:=HLT.out;omega
   case rel=>exact ⟨k+1,q8,Nat.sub_add_cancel HLT.out,by go_num,Hm (by rw [HCT.out,←List.append_assoc];exact HW8.out),HR8⟩
  ·obtain rfl:k=ls.length:=by omega
   rw [List.take_length] at hW
   go_wp2
   go_end0
   refine ⟨rfl,q', ?_,hR.out⟩
   have h9:=hW.out
   unfold imgW
   simpa using h9
def Bx (W:World) (g:Nat) (q:Option Nat) (b:Nat) (cs:Array Value) (t:TypeId):Prop:=Blk W b cs t∧¬ (b=g∨q=some b)
section
variable {W W' : World} {g b : Nat} {q q' : Option Nat} {cs : Array Value} {t : TypeId} {l : List Int}
theorem Bx.wr (h:Bx W g q b cs t) (k:Wr W W' g q q'):Bx W' g q' b cs t:=by
 refine ⟨h.1.wr k h.2,fun e=> ?_⟩
 rcases e with e|e
 ·exact h.2 (.inl e)
 ·rcases k.2 with e2|⟨b',e2,hb⟩
  ·exact h.2 (.inr (e2 ▸ e))
  ·rw [e2] at e
   injection e with e
   have:=h.1.lt
   omega
theorem Bx.ext (h:Bx W g q b cs t) (he:Ext W W'):Bx W' g q b cs t:=⟨h.1.ext he,h.2⟩
theorem Bx.new (h:WB W g q l) (cs:Array Value) (t:TypeId):Bx (W.alloc (.cells cs t)) g q W.heap.size cs t:=⟨Blk.new W cs t,h.new (Nat.le_refl _)⟩
end
def Col.wr (c:Col):Prop:=c.nm.size≤1000∧0≤c.ty∧c.ty<256
theorem colW_len (c:Col) (h:c.wr):(colW c).length≤1010:=by
 unfold colW nameW
 simp only [List.length_cons,List.length_append,octs_len,strL_len]
 have:=h.1
 omega
theorem colsW_len:∀(l:List Col),(∀c∈l,c.wr)→(colsW l).length≤1010*l.length
 | [],_=>by simp [colsW]
 |c::l,h=>by
  have h1:=colW_len c (h c (List.mem_cons_self ..))
  have h2:=colsW_len l (fun d hd=>h d (List.mem_cons_of_mem _ hd))
  unfold colsW
  rw [List.length_append,List.length_cons]
  omega
theorem colsW_take {l:List Col} {k:Nat} (h:k<l.length):colsW (l.take (k+1))=colsW (l.take k)++colW l[k]:=by
 rw [List.take_succ_eq_append_getElem h,colsW_snoc]
theorem wrel_any (g:Nat) (q:Option Nat) (l:List Int) (oid ver:Int) (nm:ByteArray) (id:Int) (cols:List Col) (a:Option Addr) (c:Nat) (W0 w:World) (h:WB w g q l) (he:Ext W0 w) (hg:W0.heap.size≤g) (hlen:l.length≤600000000) (hl:Sl W0 (.slice a cols.length c) 3 (cols.map Col.cells)) (hn:cols.length≤1000)
 (ho:B32 oid) (hv:B32 ver) (hnm:nm.size≤1000) (hid:0≤id∧id<256) (hc:∀c∈cols,c.wr):
 Calls Tryz.prog 40 #[.pointer (some ⟨g,0,none⟩), .agg #[.int .u32 oid, .int .u32 ver, .string nm, .int .u8 id, .slice a cols.length c]] w (WQ g q (l++relW ⟨oid,ver,nm,id,cols⟩) w):=by
 have HL:=Hm hl
 have HCC:=Hm hc
 have HO:=Hm ho
 have HV:=Hm hv
 have HEE:=Hm (fun q' W (k:Wr w W g q q')=>Wr.ext he h hg k)
 have HR0:=Hm (Wr.of_ext (g:=g) (q:=q) ((Ext.refl w).alloc (.cells #[.int .u32 oid, .int .u32 ver, .string nm, .int .u8 id, .slice a cols.length c] 72)))
 have HW1:=Hm (h.ext ((Ext.refl w).alloc (.cells #[.int .u32 oid, .int .u32 ver, .string nm, .int .u8 id, .slice a cols.length c] 72)))
 have HX1:=Hm (Bx.new h #[.int .u32 oid, .int .u32 ver, .string nm, .int .u8 id, .slice a cols.length c] 72)
 clear h hl hc he ho hv
 have w1:=u64_small (n:=id) hid.1 (by omega)
 have w2:=u64_small (n:=(cols.length:Int)) (by omega) (by omega)
 go_enter Tryz.func40,Tryz.ntmps40
 have gX:=HX1.out.1.cell
 have zX:=HX1.out.1.lt
 go_upto_region 2 with (go_at_call 41;refine (wref_any g q l oid ver _ HW1.out (by omega) HO.out HV.out).mono ?_;rintro e w3 ⟨rfl,q3,hw3,hr3⟩;have HW3:=Hm hw3;have HR3:=Hm (HR0.out.trans hr3);have HX3:=Hm (HX1.out.wr hr3);clear hw3 hr3 gX zX)
 have gX:=HX3.out.1.cell
 have zX:=HX3.out.1.lt
 go_upto_region 3 with (go_at_call 74;refine (wname_any g q3 (l++refW oid ver) nm _ HW3.out (by unfold refW;simp only [List.length_append,octs_len];omega) (by omega)).mono ?_;rintro e w4 ⟨rfl,q4,hw4,hr4⟩;have HW4:=Hm hw4;have HR4:=Hm (HR3.out.trans hr4);have HX4:=Hm (HX3.out.wr hr4);clear hw4 hr4 gX zX)
 have gX:=HX4.out.1.cell
 have zX:=HX4.out.1.lt
 go_upto_region 4 with (go_at_call 39;refine (number_any g q4 (l++refW oid ver++nameW nm) id 1 _ HW4.out (by unfold refW nameW;simp only [List.length_append,octs_len,strL_len];omega) (by omega) hid.1).mono ?_;rintro e w5 ⟨rfl,q5,hw5,hr5⟩;have HW5:=Hm hw5;have HR5:=Hm (HR4.out.trans hr5);have HX5:=Hm (HX4.out.wr hr5);clear hw5 hr5 gX zX)
 have gX:=HX5.out.1.cell
 have zX:=HX5.out.1.lt
 go_upto_region 5 with (go_at_call 39;refine (number_any g q5 (l++refW oid ver++nameW nm++octs id 1) cols.length 1 _ HW5.out (by unfold refW nameW;simp only [List.length_append,octs_len,strL_len];omega) (by omega) (by omega)).mono ?_;rintro e w6 ⟨rfl,q6,hw6,hr6⟩;have HW6:=Hm hw6;have HR6:=Hm (HR5.out.trans hr6);have HX6:=Hm (HX5.out.wr hr6);clear hw6 hr6 gX zX)
 have gX:=HX6.out.1.cell
 have zX:=HX6.out.1.lt
 clear HW1 HW3 HW4 HW5 HX1 HX3 HX4 HX5 HR0 HR3 HR4 HR5
 obtain ⟨hd,hhd⟩:∃x,x=l++refW oid ver++nameW nm++octs id 1++octs cols.length 1:=⟨_,rfl⟩
 rw [←hhd] at HW6
 have HHL:=Hm (show hd.length≤600010000 from by rw [hhd];unfold refW nameW;simp only [List.length_append,octs_len,strL_len];omega)
 have HHD:=Hm hhd
 clear hhd
 go_wp2
 go_loopg [29] cols.length (fun y i wr=>∃(k:Nat) (q' :Option Nat),y+k=cols.length∧i= .int .i64 k∧Hid (WB wr g q' (hd++colsW (cols.take k)))∧Hid (Wr w wr g q q'))
 case atStart=>exact ⟨0,q6,rfl,rfl,Hm (by rw [List.take_zero];exact (List.append_nil _).symm ▸ HW6.out),HR6⟩
 case round=>
  obtain ⟨k,q',hk,rfl,hW,hR⟩:=hrel
  clear gX zX
  by_cases hlt:k<cols.length
  ·obtain ⟨b,o,rfl,hb2,hx2⟩:=HL.out.at_ (i:=k) (by simpa using hlt)
   have HE:=Hm (HEE.out _ _ hR.out)
   obtain ⟨f0,f1,f2⟩:=Col.at_ hlt hx2 hb2 HE.out
   have hbw:b<wr.heap.size:=Nat.lt_of_lt_of_le hb2 HE.out.size
   have HCT:=Hm (colsW_take hlt)
   have HCL:=Hm (colsW_len (cols.take k) (fun c hc=>HCC.out c (List.mem_of_mem_take hc)))
   have HXC:=Hm (HCC.out _ (List.getElem_mem hlt))
   obtain ⟨x,hx⟩:∃x,x=cols[k]'hlt:=⟨_,rfl⟩
   rw [←hx] at f0 f1 f2 HCT HXC
   clear hx hx2 hb2
   have HLT:=Hm hlt
   have i1:(k:Int)<(cols.length:Int):=by omega
   obtain ⟨xn,xt,xk⟩:=x
   unfold Col.wr at HXC
   simp only at f0 f1 f2 HXC
   have x1:=HXC.out.1
   have x2:=HXC.out.2.1
   have w3:=u64_small (n:=xt) x2 (by have:=HXC.out.2.2;omega)
   obtain ⟨hw,hhw⟩:∃z,z=hd++colsW (cols.take k):=⟨_,rfl⟩
   rw [←hhw] at hW
   have hwl:hw.length≤610000000:=by
    rw [hhw,List.length_append]
    have h1:=HCL.out
    rw [List.length_take] at h1
    have h2:1010*min k cols.length≤1010*1000:=Nat.mul_le_mul_left _ (by omega)
    have h3:=HHL.out
    omega
   have HWL:=Hm hwl
   have HHW:=Hm hhw
   clear hwl hhw
   have HW7:=Hm (hW.out.ext ((Ext.refl wr).alloc (.cells #[.string xn, .int .u8 xt, .bool xk] 153)))
   have HX7:=Hm (Bx.new hW.out #[.string xn, .int .u8 xt, .bool xk] 153)
   have HR7:=Hm (hR.out.post ((Ext.refl wr).alloc (.cells #[.string xn, .int .u8 xt, .bool xk] 153)))
   cases xk
   ·go_upto_region 9 with (fail)
    clear f0 f1 f2 hbw
    have gC:=HX7.out.1.cell
    have zC:=HX7.out.1.lt
    go_upto_region 12 with (go_at_call 39;refine (number_any g q' hw 0 1 _ HW7.out (by have:=HWL.out;omega) (by omega) (by omega)).mono ?_;rintro e w8 ⟨rfl,q8,hw8,hr8⟩;have HW8:=Hm (show WB w8 g q8 (hw++ [0]) from hw8);have HR8:=Hm (HR7.out.trans hr8);have HX8:=Hm (HX7.out.wr hr8);clear hw8 hr8 gC zC)
    have gC:=HX8.out.1.cell
    have zC:=HX8.out.1.lt
    go_upto_region 13 with (go_at_call 74;refine (wname_any g q8 _ xn _ HW8.out (by have:=HWL.out;rw [List.length_append,List.length_singleton];omega) (by omega)).mono ?_;rintro e w9 ⟨rfl,q9,hw9,hr9⟩;have HW9:=Hm hw9;have HR9:=Hm (HR8.out.trans hr9);have HX9:=Hm (HX8.out.wr hr9);clear hw9 hr9 gC zC)
    have gC:=HX9.out.1.cell
    have zC:=HX9.out.1.lt
    go_wp2_with (go_at_call 39;refine (number_any g q9 _ xt 1 _ HW9.out (by have:=HWL.out;unfold nameW;simp only [List.length_append,List.length_singleton,octs_len,strL_len];omega) (by omega) x2).mono ?_;rintro e w10 ⟨rfl,q10,hw10,hr10⟩;have HW10:=Hm hw10;have HR10:=Hm (HR9.out.trans hr10);clear hw10 hr10 gC zC)
    go_roundg (cols.length - (k+1))
    case measure=>have:=HLT.out;omega
    case rel=>
     refine ⟨k+1,q10,Nat.sub_add_cancel HLT.out,by go_num,Hm ?_,HR10⟩
     have h9:=HW10.out
     rw [HCT.out,←List.append_assoc,←HHW.out]
     unfold colW
     simpa using h9
   ·go_upto_region 9 with (fail)
    clear f0 f1 f2 hbw
    have gC:=HX7.out.1.cell
    have zC:=HX7.out.1.lt
    go_upto_region 12 with (go_at_call 39;refine (number_any g q' hw 1 1 _ HW7.out (by have:=HWL.out;omega) (by omega) (by omega)).mono ?_;rintro e w8 ⟨rfl,q8,hw8,hr8⟩;have HW8:=Hm (show WB w8 g q8 (hw++ [1]) from hw8);have HR8:=Hm (HR7.out.trans hr8);have HX8:=Hm (HX7.out.wr hr8);clear hw8 hr8 gC zC)
    have gC:=HX8.out.1.cell
    have zC:=HX8.out.1.lt
    go_upto_region 13 with (go_at_call 74;refine (wname_any g q8 _ xn _ HW8.out (by have:=HWL.out;rw [List.length_append,List.length_singleton];omega) (by omega)).mono ?_;rintro e w9 ⟨rfl,q9,hw9,hr9⟩;have HW9:=Hm hw9;have HR9:=Hm (HR8.out.trans hr9);have HX9:=Hm (HX8.out.wr hr9);clear hw9 hr9 gC zC)
    have gC:=HX9.out.1.cell
    have zC:=HX9.out.1.lt
    go_wp2_with (go_at_call 39;refine (number_any g q9 _ xt 1 _ HW9.out (by have:=HWL.out;unfold nameW;simp only [List.length_append,List.length_singleton,octs_len,strL_len];omega) (by omega) x2).mono ?_;rintro e w10 ⟨rfl,q10,hw10,hr10⟩;have HW10:=Hm hw10;have HR10:=Hm (HR9.out.trans hr10);clear hw10 hr10 gC zC)
    go_roundg (cols.length - (k+1))
    case measure=>have:=HLT.out;omega
    case rel=>
     refine ⟨k+1,q10,Nat.sub_add_cancel HLT.out,by go_num,Hm ?_,HR10⟩
     have h9:=HW10.out
     rw [HCT.out,←List.append_assoc,←HHW.out]
     unfold colW
     simpa using h9
  ·obtain rfl:k=cols.length:=by omega
   rw [List.take_length,HHD.out] at hW
   go_wp2
   go_end0
   refine ⟨rfl,q', ?_,hR.out⟩
   have h9:=hW.out
   unfold relW
   simpa using h9
def K.wr (c:K):Prop:=(-9223372036854775808≤c.v.n∧c.v.n≤9223372036854775807)∧c.v.s.size≤9223372036854775807
theorem imgW_len (letter:Int) (l:List K) (h:∀c∈l,c.wr):(imgW letter l).length≤3010*l.length+2:=by
 have:=cellsW_len l (fun c hc=>(h c hc).1)
 unfold imgW
 simp only [List.length_cons,List.length_append,octs_len]
 omega
def rowsW (k ao av old:Int) (lb la:List K):List Int:=refW ao av++((if old=1 then imgW 75 lb else if old=2 then imgW 79 lb else [])++(if k=68 then [] else imgW 78 la))
theorem wrows_any (g:Nat) (q:Option Nat) (l:List Int) (k xd st n oid ver:Int) (nm:ByteArray) (id:Int) (cols:List Col) (ca:Option Addr) (cc:Nat) (kd ao av old:Int) (lb la:List K) (rs:List Rf) (ba aa ra:Option Addr) (bc ac rc:Nat) (fl:Int) (W0 w:World) (h:WB w g q l) (he:Ext W0 w) (hg:W0.heap.size≤g) (hlen:l.length≤500000000)
 (hb:Sl W0 (.slice ba lb.length bc) 5 (lb.map K.pc)) (ha:Sl W0 (.slice aa la.length ac) 5 (la.map K.pc)) (hnb:lb.length≤1000) (hna:la.length≤1000) (hcb:∀c∈lb,c.wr) (hca:∀c∈la,c.wr) (ho:B32 ao) (hv:B32 av) (ht:Tab W0):
 Calls Tryz.prog 42 #[.pointer (some ⟨g,0,none⟩), .agg #[.int .u8 k, .int .u32 xd, .int .u64 st, .int .u32 n, .int .u32 oid, .int .u32 ver, .string nm, .int .u8 id, .slice ca cols.length cc, .int .u8 kd, .int .u32 ao, .int .u32 av, .int .u8 old, .slice ba lb.length bc, .slice aa la.length ac, .slice ra rs.length rc, .int .u8 fl]] w (WQ g q (l++rowsW k ao av old lb la) w):=by
 have HB:=Hm hb
 have HA:=Hm ha
 have HCB:=Hm hcb
 have HCA:=Hm hca
 have HT:=Hm ht
 have HO:=Hm ho
 have HV:=Hm hv
 have HEE:=Hm (fun q' W (k:Wr w W g q q')=>Wr.ext he h hg k)
 have HR0:=Hm (Wr.of_ext (g:=g) (q:=q) ((Ext.refl w).alloc (.cells #[.int .u8 k, .int .u32 xd, .int .u64 st, .int .u32 n, .int .u32 oid, .int .u32 ver, .string nm, .int .u8 id, .slice ca cols.length cc, .int .u8 kd, .int .u32 ao, .int .u32 av, .int .u8 old, .slice ba lb.length bc, .slice aa la.length ac, .slice ra rs.length rc, .int .u8 fl] 79)))
 have HW1:=Hm (h.ext ((Ext.refl w).alloc (.cells #[.int .u8 k, .int .u32 xd, .int .u64 st, .int .u32 n, .int .u32 oid, .int .u32 ver, .string nm, .int .u8 id, .slice ca cols.length cc, .int .u8 kd, .int .u32 ao, .int .u32 av, .int .u8 old, .slice ba lb.length bc, .slice aa la.length ac, .slice ra rs.length rc, .int .u8 fl] 79)))
 have HX1:=Hm (Bx.new h #[.int .u8 k, .int .u32 xd, .int .u64 st, .int .u32 n, .int .u32 oid, .int .u32 ver, .string nm, .int .u8 id, .slice ca cols.length cc, .int .u8 kd, .int .u32 ao, .int .u32 av, .int .u8 old, .slice ba lb.length bc, .slice aa la.length ac, .slice ra rs.length rc, .int .u8 fl] 79)
 have HLB:=Hm (imgW_len 75 lb hcb)
 have HLC:=Hm (imgW_len 79 lb hcb)
 have HRW:=Hm (show rowsW k ao av old lb la=refW ao av++((if old=1 then imgW 75 lb else if old=2 then imgW 79 lb else [])++(if k=68 then [] else imgW 78 la)) from rfl)
 generalize rowsW k ao av old lb la=RW at HRW
 clear h hb ha hcb hca he ho hv ht
 by_cases h1:old=1
 ·subst h1
  rw [if_pos rfl] at HRW
  by_cases hk:k=68
  ·subst hk
   rw [if_pos rfl] at HRW
   go_enter Tryz.func42,Tryz.ntmps42
   have gX:=HX1.out.1.cell
   have zX:=HX1.out.1.lt
   go_upto_region 4 with (go_at_call 41;refine (wref_any g q l ao av _ HW1.out (by omega) HO.out HV.out).mono ?_;rintro e w3 ⟨rfl,q3,hw3,hr3⟩;have HW3:=Hm hw3;have HR3:=Hm (HR0.out.trans hr3);have HX3:=Hm (HX1.out.wr hr3);clear hw3 hr3 gX zX;have gX:=HX3.out.1.cell;have zX:=HX3.out.1.lt)
   go_wp2_with (go_at_call 75;refine (wimage_any g q3 (l++refW ao av) 75 lb ba bc W0 _ HW3.out (HEE.out _ _ HR3.out) hg (by unfold refW;simp only [List.length_append,octs_len];omega) HB.out hnb (fun c hc=>(HCB.out c hc).1) (fun c hc=>(HCB.out c hc).2) HT.out).mono ?_;rintro e w4 ⟨rfl,q4,hw4,hr4⟩;have HW4:=Hm hw4;have HR4:=Hm (HR3.out.trans hr4);have HX4:=Hm (HX3.out.wr hr4);clear hw4 hr4 gX zX;have gX:=HX4.out.1.cell;have zX:=HX4.out.1.lt)
   go_end0
   exact ⟨rfl,q4,by rw [HRW.out];simpa using HW4.out,HR4.out⟩
  have hk1:(k !=68)=true:=by simpa using hk
  rw [if_neg hk] at HRW
  clear hk
  go_enter Tryz.func42,Tryz.ntmps42
  have gX:=HX1.out.1.cell
  have zX:=HX1.out.1.lt
  go_upto_region 4 with (go_at_call 41;refine (wref_any g q l ao av _ HW1.out (by omega) HO.out HV.out).mono ?_;rintro e w3 ⟨rfl,q3,hw3,hr3⟩;have HW3:=Hm hw3;have HR3:=Hm (HR0.out.trans hr3);have HX3:=Hm (HX1.out.wr hr3);clear hw3 hr3 gX zX;have gX:=HX3.out.1.cell;have zX:=HX3.out.1.lt)
  go_upto_region 8 with (go_at_call 75;refine (wimage_any g q3 (l++refW ao av) 75 lb ba bc W0 _ HW3.out (HEE.out _ _ HR3.out) hg (by unfold refW;simp only [List.length_append,octs_len];omega) HB.out hnb (fun c hc=>(HCB.out c hc).1) (fun c hc=>(HCB.out c hc).2) HT.out).mono ?_;rintro e w4 ⟨rfl,q4,hw4,hr4⟩;have HW4:=Hm hw4;have HR4:=Hm (HR3.out.trans hr4);have HX4:=Hm (HX3.out.wr hr4);clear hw4 hr4 gX zX;have gX:=HX4.out.1.cell;have zX:=HX4.out.1.lt)
  go_wp2_with (go_at_call 75;refine (wimage_any g q4 (l++refW ao av++imgW 75 lb) 78 la aa ac W0 _ HW4.out (HEE.out _ _ HR4.out) hg (by have:=HLB.out;unfold refW;simp only [List.length_append,octs_len];omega) HA.out hna (fun c hc=>(HCA.out c hc).1) (fun c hc=>(HCA.out c hc).2) HT.out).mono ?_;rintro e w5 ⟨rfl,q5,hw5,hr5⟩;have HW5:=Hm hw5;have HR5:=Hm (HR4.out.trans hr5);clear hw5 hr5 gX zX)
  go_end0
  exact ⟨rfl,q5,by rw [HRW.out];simpa using HW5.out,HR5.out⟩
 rw [if_neg h1] at HRW
 have k1:(old==1)=false:=by simpa using h1
 clear h1
 by_cases h2:old=2
 ·subst h2
  rw [if_pos rfl] at HRW
  by_cases hk:k=68
  ·subst hk
   rw [if_pos rfl] at HRW
   go_enter Tryz.func42,Tryz.ntmps42
   have gX:=HX1.out.1.cell
   have zX:=HX1.out.1.lt
   go_upto_region 6 with (go_at_call 41;refine (wref_any g q l ao av _ HW1.out (by omega) HO.out HV.out).mono ?_;rintro e w3 ⟨rfl,q3,hw3,hr3⟩;have HW3:=Hm hw3;have HR3:=Hm (HR0.out.trans hr3);have HX3:=Hm (HX1.out.wr hr3);clear hw3 hr3 gX zX;have gX:=HX3.out.1.cell;have zX:=HX3.out.1.lt)
   go_wp2_with (go_at_call 75;refine (wimage_any g q3 (l++refW ao av) 79 lb ba bc W0 _ HW3.out (HEE.out _ _ HR3.out) hg (by unfold refW;simp only [List.length_append,octs_len];omega) HB.out hnb (fun c hc=>(HCB.out c hc).1) (fun c hc=>(HCB.out c hc).2) HT.out).mono ?_;rintro e w4 ⟨rfl,q4,hw4,hr4⟩;have HW4:=Hm hw4;have HR4:=Hm (HR3.out.trans hr4);have HX4:=Hm (HX3.out.wr hr4);clear hw4 hr4 gX zX;have gX:=HX4.out.1.cell;have zX:=HX4.out.1.lt)
   go_end0
   exact ⟨rfl,q4,by rw [HRW.out];simpa using HW4.out,HR4.out⟩
  have hk1:(k !=68)=true:=by simpa using hk
  rw [if_neg hk] at HRW
  clear hk
  go_enter Tryz.func42,Tryz.ntmps42
  have gX:=HX1.out.1.cell
  have zX:=HX1.out.1.lt
  go_upto_region 6 with (go_at_call 41;refine (wref_any g q l ao av _ HW1.out (by omega) HO.out HV.out).mono ?_;rintro e w3 ⟨rfl,q3,hw3,hr3⟩;have HW3:=Hm hw3;have HR3:=Hm (HR0.out.trans hr3);have HX3:=Hm (HX1.out.wr hr3);clear hw3 hr3 gX zX;have gX:=HX3.out.1.cell;have zX:=HX3.out.1.lt)
  go_upto_region 8 with (go_at_call 75;refine (wimage_any g q3 (l++refW ao av) 79 lb ba bc W0 _ HW3.out (HEE.out _ _ HR3.out) hg (by unfold refW;simp only [List.length_append,octs_len];omega) HB.out hnb (fun c hc=>(HCB.out c hc).1) (fun c hc=>(HCB.out c hc).2) HT.out).mono ?_;rintro e w4 ⟨rfl,q4,hw4,hr4⟩;have HW4:=Hm hw4;have HR4:=Hm (HR3.out.trans hr4);have HX4:=Hm (HX3.out.wr hr4);clear hw4 hr4 gX zX;have gX:=HX4.out.1.cell;have zX:=HX4.out.1.lt)
  go_wp2_with (go_at_call 75;refine (wimage_any g q4 (l++refW ao av++imgW 79 lb) 78 la aa ac W0 _ HW4.out (HEE.out _ _ HR4.out) hg (by have:=HLC.out;unfold refW;simp only [List.length_append,octs_len];omega) HA.out hna (fun c hc=>(HCA.out c hc).1) (fun c hc=>(HCA.out c hc).2) HT.out).mono ?_;rintro e w5 ⟨rfl,q5,hw5,hr5⟩;have HW5:=Hm hw5;have HR5:=Hm (HR4.out.trans hr5);clear hw5 hr5 gX zX)
  go_end0
  exact ⟨rfl,q5,by rw [HRW.out];simpa using HW5.out,HR5.out⟩
 rw [if_neg h2] at HRW
 have k2:(old==2)=false:=by simpa using h2
 clear h2
 by_cases hk:k=68
 ·subst hk
  rw [if_pos rfl] at HRW
  go_enter Tryz.func42,Tryz.ntmps42
  have gX:=HX1.out.1.cell
  have zX:=HX1.out.1.lt
  go_wp2_with (go_at_call 41;refine (wref_any g q l ao av _ HW1.out (by omega) HO.out HV.out).mono ?_;rintro e w3 ⟨rfl,q3,hw3,hr3⟩;have HW3:=Hm hw3;have HR3:=Hm (HR0.out.trans hr3);have HX3:=Hm (HX1.out.wr hr3);clear hw3 hr3 gX zX;have gX:=HX3.out.1.cell;have zX:=HX3.out.1.lt)
  go_end0
  exact ⟨rfl,q3,by rw [HRW.out];simpa using HW3.out,HR3.out⟩
 have hk1:(k !=68)=true:=by simpa using hk
 rw [if_neg hk] at HRW
 clear hk
 go_enter Tryz.func42,Tryz.ntmps42
 have gX:=HX1.out.1.cell
 have zX:=HX1.out.1.lt
 go_upto_region 8 with (go_at_call 41;refine (wref_any g q l ao av _ HW1.out (by omega) HO.out HV.out).mono ?_;rintro e w3 ⟨rfl,q3,hw3,hr3⟩;have HW3:=Hm hw3;have HR3:=Hm (HR0.out.trans hr3);have HX3:=Hm (HX1.out.wr hr3);clear hw3 hr3 gX zX;have gX:=HX3.out.1.cell;have zX:=HX3.out.1.lt)
 go_wp2_with (go_at_call 75;refine (wimage_any g q3 (l++refW ao av) 78 la aa ac W0 _ HW3.out (HEE.out _ _ HR3.out) hg (by unfold refW;simp only [List.length_append,octs_len];omega) HA.out hna (fun c hc=>(HCA.out c hc).1) (fun c hc=>(HCA.out c hc).2) HT.out).mono ?_;rintro e w5 ⟨rfl,q5,hw5,hr5⟩;have HW5:=Hm hw5;have HR5:=Hm (HR3.out.trans hr5);clear hw5 hr5 gX zX)
 go_end0
 exact ⟨rfl,q5,by rw [HRW.out];simpa using HW5.out,HR5.out⟩
theorem named_le {s:ByteArray} (h:namedB s=true):s.size≤31:=by
 unfold namedB at h
 rw [Bool.and_eq_true,decide_eq_true_eq] at h
 exact h.1.2
theorem Rl.right_nm {r:Rl} (h:r.right=0):r.nm.size≤31:=by
 unfold Rl.right at h
 by_cases h1:r.oid=0∨r.ver=0
 ·rw [if_pos h1] at h;cases h
 rw [if_neg h1] at h
 by_cases h2:namedB r.nm=false
 ·rw [if_pos h2] at h;cases h
 exact named_le (by simpa using h2)
theorem Rl.right_wr {r:Rl} (h:r.right=0):∀c∈r.cols,c.wr:=by
 have h3:firstE (colAt r.cols) r.cols.length=0:=by
  apply Classical.byContradiction
  intro hne
  unfold Rl.right at h
  rw [if_pos hne] at h
  repeat' split at h
  all_goals first|omega|cases h|exact hne h
 intro c hc
 obtain ⟨i,hi,rfl⟩:=List.getElem_of_mem hc
 have h4:=firstE_all h3 i hi
 rw [colAt_lt hi] at h4
 unfold colE at h4
 by_cases h1:namedB r.cols[i].nm=false
 ·rw [if_pos h1] at h4;cases h4
 rw [if_neg h1] at h4
 by_cases h5:(r.cols.take i).any (fun o=>decide (o.nm=r.cols[i].nm))=true
 ·rw [if_pos h5] at h4;cases h4
 rw [if_neg h5] at h4
 by_cases h6:r.cols[i].ty<1∨6<r.cols[i].ty
 ·rw [if_pos h6] at h4;cases h4
 have:=named_le (s:=r.cols[i].nm) (by simpa using h1)
 exact ⟨by omega,by omega,by omega⟩
structure ML.okr (p:ML):Prop where
 len:p.r.r.cols.length≤1000
 nm:p.r.r.nm.size≤9223372036854775807
 cs:∀c∈p.r.r.cols,c.nm.size≤9223372036854775807
 sm:p.e.e.small
 wk:p.e.e.wk
 k0:0≤p.k
 k1:p.k<256
 x:B32 p.x
 st:0≤p.st
 st1:p.st<18446744073709551616
 n:B32 p.n
 o:B32 p.r.r.oid
 v:B32 p.r.r.ver
 id:0≤p.r.r.id∧p.r.r.id<256
 wb:∀c∈p.e.e.b,c.wr
 wa:∀c∈p.e.e.a,c.wr
 ao:B32 p.e.e.ao
 av:B32 p.e.e.av
 rs:∀r∈p.e.e.rs,B32 r.o∧B32 r.v
 fl:0≤p.e.e.fl∧p.e.e.fl<256
structure ML.ok (p:ML):Prop extends p.okr where
 cap:p.r.r.cols.length≤p.r.c
theorem msg_rel {m:Msg} {rs:List Rl} (h:msgE m rs=0) (hk:m.k=82):m.r.right=0:=by
 unfold msgE at h
 (repeat' split at h)<;>first|exact h|(exfalso;omega)|cases h
theorem msg_ev {m:Msg} {rs:List Rl} (h:msgE m rs=0) (h1:m.k≠66) (h2:m.k≠67) (h3:m.k≠82):m.e.kind=wkind m.k∧evE m.e rs=0:=by
 unfold msgE at h
 (repeat' split at h)<;>first|(exact ⟨Classical.not_not.1 (by assumption),h⟩)|(exfalso;omega)|cases h
theorem refsW_len:∀l:List Rf,(refsW l).length=8*l.length
 | []=>rfl
 |r::l=>by
  unfold refsW refW
  simp only [List.length_append,octs_len,List.length_cons,refsW_len l]
  omega
theorem refsW_take {l:List Rf} {k:Nat} (h:k<l.length):refsW (l.take (k+1))=refsW (l.take k)++refW l[k].o l[k].v:=by
 rw [List.take_succ_eq_append_getElem h,refsW_snoc]
theorem rowsW_len {k ao av old:Int} {lb la:List K} (hb:∀c∈lb,c.wr) (ha:∀c∈la,c.wr) (hnb:lb.length≤1000) (hna:la.length≤1000):(rowsW k ao av old lb la).length≤10000000:=by
 have h1:=imgW_len 75 lb hb
 have h2:=imgW_len 79 lb hb
 have h3:=imgW_len 78 la ha
 have h5:3010*lb.length≤3010*1000:=Nat.mul_le_mul_left _ hnb
 have h6:3010*la.length≤3010*1000:=Nat.mul_le_mul_left _ hna
 have h7:(if old=1 then imgW 75 lb else if old=2 then imgW 79 lb else []).length≤3010*1000+2:=by
  split
  ·omega
  ·split
   ·omega
   ·simp
 have h8:(if k=68 then [] else imgW 78 la).length≤3010*1000+2:=by
  split
  ·simp
  ·omega
 unfold rowsW refW
 simp only [List.length_append,octs_len]
 omega
theorem body_len {m:Msg} {rs:List Rl} (h:msgE m rs=0) (hs:m.e.small) (hb:∀c∈m.e.b,c.wr) (ha:∀c∈m.e.a,c.wr):(bodyW m).length≤10000000:=by
 unfold bodyW
 by_cases h1:m.k=66
 ·rw [if_pos h1];simp only [List.length_append,octs_len];omega
 rw [if_neg h1]
 by_cases h2:m.k=67
 ·rw [if_pos h2];simp only [List.length_append,octs_len];omega
 rw [if_neg h2]
 by_cases h3:m.k=82
 ·rw [if_pos h3]
  have hr:=msg_rel h h3
  have h4:=Rl.right_nm hr
  have h5:=Rl.cols_le hr
  have h6:=colsW_len m.r.cols (Rl.right_wr hr)
  unfold relW refW nameW
  simp only [List.length_append,octs_len,strL_len]
  omega
 rw [if_neg h3]
 by_cases h4:m.k=84
 ·rw [if_pos h4]
  have:=hs.r
  simp only [List.length_append,octs_len,refsW_len]
  omega
 rw [if_neg h4]
 exact rowsW_len (k:=m.k) (ao:=m.e.ao) (av:=m.e.av) (old:=m.e.old) hb ha hs.b hs.a
end Go.Proofs.YtgmphpccpfaapaaGreatDoor
