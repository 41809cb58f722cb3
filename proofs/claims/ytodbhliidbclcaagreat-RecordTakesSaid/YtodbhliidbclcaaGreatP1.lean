/-
Small general laws: stores of floats and complex numbers; worlds that only grow.
-/
import Derived.Test.YtodbhliidbclcaaGreatRows
import Derived.WalkKit
import Derived.WalkSpells
import Derived.WalkLawsBesides
import Derived.Laws.EntriesVeiled
import Derived.Laws.ComplexArith
import Derived.Deep.QuietTactic
import Derived.BigQuiet
import Derived.Deep.RegionHeld3
import Derived.Deep.RegionWith
import Derived.StillTailTactics
import Derived.Deep.LoopGhost
import Derived.Deep.DeepCutAuto
import Derived.Laws.BytesArg
import Derived.Lib.AppendStr
import Derived.ScopeJumps
import Derived.WalkMore
set_option maxRecDepth 100000
set_option maxHeartbeats 16000000
namespace Go.Proofs.YtodbhliidbclcaaGreat
open Go.RowKit
section
variable {P : Program} (w : World) (a : Addr) (m : Mode)
@[go_sem] theorem run_store_complex (k:FloatKind) (x y:Nat):(store a (.complex k x y) m).run P w=stored P w a (.complex k x y) m:=run_store P w a _ m rfl
@[go_sem] theorem run_store_float (k:FloatKind) (x:Nat):(store a (.float k x) m).run P w=stored P w a (.float k x) m:=run_store P w a _ m rfl
end
theorem Hm {p:Prop} (h:p):Hid p:=h
def Ext (w w' :World):Prop:=Below w.heap.size w w'
theorem Ext.refl (w:World):Ext w w:=Below.refl _ _
theorem Ext.alloc {w w1:World} (h:Ext w w1) (o:Obj):Ext w (w1.alloc o):=Below.alloc h h.size o
theorem Ext.drew {w w1:World} (h:Ext w w1):Ext w w1.drew:=Below.drew h
theorem Ext.drewN {w w1:World} (h:Ext w w1) (n:Nat):Ext w (w1.drewN n):=⟨h.os,h.tape,h.output,h.size,h.block⟩
theorem Ext.trans {w w1 w2:World} (h:Ext w w1) (k:Ext w1 w2):Ext w w2:=Below.trans h (Below.mono k h.size)
theorem Ext.size {w w1:World} (h:Ext w w1):w.heap.size≤w1.heap.size:=Below.size h
theorem Ext.cells {W w1:World} (hb:Ext W w1):(∀b o,b<W.heap.size→w1.cell? ⟨b,o,none⟩=W.cell? ⟨b,o,none⟩)∧(∀b o,b<W.heap.size→w1.frozen? ⟨b,o,none⟩=W.frozen? ⟨b,o,none⟩):=
 ⟨fun b o h=>Below.cell hb (p:=⟨b,o,none⟩) h,fun b o h=>Below.frozen hb (p:=⟨b,o,none⟩) h⟩
theorem held_of {W w1:World} (h:Ext W w1):Ext W w1∧(∀b o,b<W.heap.size→w1.cell? ⟨b,o,none⟩=W.cell? ⟨b,o,none⟩)∧(∀b o,b<W.heap.size→w1.frozen? ⟨b,o,none⟩=W.frozen? ⟨b,o,none⟩):=⟨h,h.cells⟩
theorem held_left {W w1:World} {q:Prop} (h:Ext W w1∧q):Ext W w1:=h.1
theorem Ext.setCell {w w1:World} (h:Ext w w1) {p:Addr} (hp:w.heap.size≤p.block) (u:Value):Ext w (w1.setCell p u):=Below.setCell h hp u
theorem eX {w w' :World} (h:Ext w w' :=by repeat (with_reducible (first|exact Ext.refl _|assumption|exact held_left (by assumption)|apply Ext.drewN|apply Ext.drew|apply Ext.alloc|(refine Ext.setCell ?_ (by first|(simp;done)|(simp;omega)|omega) _)|(refine Ext.trans ?_ (by assumption))|(refine Ext.trans ?_ (held_left (by assumption)))))):Ext w w' :=h
theorem ret_int {k:IntKind} {a b:Int} (h:a=b):Ending.returned (.int k a)= .returned (.int k b):=by rw [h]
theorem ret_bool {a b:Bool} (h:a=b):Ending.returned (.bool a)= .returned (.bool b):=by rw [h]
theorem isEmpty_size (s:ByteArray):s.toList.isEmpty=decide (s.size=0):=by
 have h:s.size=s.data.toList.length:=by simp only [Array.length_toList];rfl
 rw [ByteArray.toList_eq,h]
 cases s.data.toList<;>simp
def Blk (w:World) (b:Nat) (cs:Array Value) (t:TypeId):Prop:=w.heap[b]? =some (.cells cs t (0,0))
theorem Blk.lt {w:World} {b:Nat} {cs:Array Value} {t:TypeId} (h:Blk w b cs t):b<w.heap.size:=by
 rcases Nat.lt_or_ge b w.heap.size with h1|h1
 ·exact h1
 ·unfold Blk at h;rw [Array.getElem?_eq_none h1] at h;cases h
theorem Blk.cell {w:World} {b:Nat} {cs:Array Value} {t:TypeId} (h:Blk w b cs t):∀o,w.cell? ⟨b,o,none⟩=cs[o]? :=by
 intro o;unfold World.cell?;unfold Blk at h;simp only [h];rfl
theorem Blk.frozen {w:World} {b:Nat} {cs:Array Value} {t:TypeId} (h:Blk w b cs t):∀o,w.frozen? ⟨b,o,none⟩=false:=by
 intro o;unfold World.frozen?;unfold Blk at h;simp only [h];simp
theorem Blk.ext {w w1:World} {b:Nat} {cs:Array Value} {t:TypeId} (h:Blk w b cs t) (he:Ext w w1):Blk w1 b cs t:=(he.block b h.lt).trans h
theorem Blk.alloc {w:World} {b:Nat} {cs:Array Value} {t:TypeId} (h:Blk w b cs t) (o:Obj):Blk (w.alloc o) b cs t:=h.ext ((Ext.refl w).alloc o)
theorem Blk.drew {w:World} {b:Nat} {cs:Array Value} {t:TypeId} (h:Blk w b cs t):Blk w.drew b cs t:=h
theorem Blk.drewN {w:World} {b:Nat} {cs:Array Value} {t:TypeId} (h:Blk w b cs t) (n:Nat):Blk (w.drewN n) b cs t:=h
theorem Blk.new (w:World) (cs:Array Value) (t:TypeId):Blk (w.alloc (.cells cs t)) w.heap.size cs t:=by
 show (w.heap.push _)[w.heap.size]? =_
 simp
theorem Blk.new' {w:World} {b:Nat} (cs:Array Value) (t:TypeId) (h:b=w.heap.size):Blk (w.alloc (.cells cs t)) b cs t:=h ▸ Blk.new w cs t
theorem Blk.set {w:World} {b:Nat} {cs:Array Value} {t:TypeId} (h:Blk w b cs t) (i:Nat) (v:Value):Blk (w.setCell ⟨b,i,none⟩ v) b (cs.setIfInBounds i v) t:=by
 unfold Blk at*
 simp only [World.setCell,Array.getElem?_modify,h,if_true,Option.map_some]
 rfl
theorem Blk.other {w:World} {b:Nat} {cs:Array Value} {t:TypeId} (h:Blk w b cs t) (a:Addr) (v:Value) (hne:b≠a.block):Blk (w.setCell a v) b cs t:=
 (Below.heap_setCell w a v b hne).trans h
def Sl (w:World) (v:Value) (k:Nat) (xss:List (List Value)):Prop:=
 ∃a cap,v= .slice a xss.length cap∧(xss= []∨∃b o,a=some ⟨b,o,none⟩∧b<w.heap.size∧∀i,i<xss.length→∀j,j<k→w.cell? ⟨b,o+i*k+j,none⟩=(xss.getD i [])[j]?)
theorem Sl.ext {w w1:World} {v:Value} {k:Nat} {xss:List (List Value)} (h:Sl w v k xss) (he:Ext w w1):Sl w1 v k xss:=by
 obtain ⟨a,cap,rfl,h⟩:=h
 refine ⟨a,cap,rfl, ?_⟩
 rcases h with h|⟨b,o,rfl,hb,hc⟩
 ·exact .inl h
 ·exact .inr ⟨b,o,rfl,Nat.lt_of_lt_of_le hb he.size,fun i hi j hj=>(he.cells.1 b _ hb).trans (hc i hi j hj)⟩
theorem call_bits (x:Nat) (w:World):(callFunc 160 #[.float .f64 x]).run Tryz.prog w= .ok (.value (.int .u64 x)) w:=
 run_callFunc_extern (e:=Extern.MathFloatBits.float64bits) Tryz.func160 (by kernel_rfl) (by kernel_rfl) (by kernel_rfl) (by kernel_rfl) _ w
theorem call_frombits (x:Int) (w:World):(callFunc 176 #[.int .u64 x]).run Tryz.prog w= .ok (.value (.float .f64 x.toNat)) w:=
 run_callFunc_extern (e:=Extern.MathFloatBits.float64frombits) Tryz.func176 (by kernel_rfl) (by kernel_rfl) (by kernel_rfl) (by kernel_rfl) _ w
theorem vof_any (x y:Int) (w:World):
 Calls Tryz.prog 152 #[.int .u64 x, .int .u64 y] w fun e w' =>e= .returned (.complex .f64 x.toNat y.toNat)∧w=w' :=by
 have h2:=call_frombits
 go_enter Tryz.func152,Tryz.ntmps152
 go_wp2
 go_ret
 exact ⟨rfl,rfl⟩
theorem vbits_any (x y:Nat) (w:World):
 Calls Tryz.prog 122 #[.complex .f64 x y] w fun e w' =>e= .returned (.tuple #[.int .u64 x, .int .u64 y])∧w=w' :=by
 have h2:=call_bits
 go_enter Tryz.func122,Tryz.ntmps122
 go_wp2
 go_ret2
 exact ⟨rfl,rfl⟩
def plainB (s:ByteArray):Bool:=s.data.toList.all fun c=>32≤c&&c≤126
theorem plain_get {s:ByteArray} (h:plainB s=true) (k:Nat) (hk:k<s.size):32≤(s[k].toNat:Int)∧(s[k].toNat:Int)≤126:=by
 unfold plainB at h
 rw [List.all_eq_true] at h
 have:=h s[k] (by rw [Array.mem_toList_iff];exact Array.getElem_mem hk)
 simp [UInt8.le_iff_toNat_le] at this
 omega
theorem plain_of {s:ByteArray} (h:∀k (hk:k<s.size),32≤(s[k].toNat:Int)∧(s[k].toNat:Int)≤126):plainB s=true:=by
 unfold plainB
 rw [List.all_eq_true]
 intro c hc
 rw [Array.mem_toList_iff] at hc
 obtain ⟨k,hk,rfl⟩:=Array.mem_iff_getElem.1 hc
 have:=h k hk
 simp [UInt8.le_iff_toNat_le]
 have e:s[k]=s.data[k]:=rfl
 rw [e] at this
 omega
theorem rplain_any (s:ByteArray) (w:World) (hs:s.size≤9223372036854775807):
 Calls Tryz.prog 159 #[.string s] w fun e w' =>e= .returned (.bool (plainB s))∧w=w' :=by
 go_enter Tryz.func159,Tryz.ntmps159
 go_wp2
 go_loop [3] (fun i=>∃k:Nat,k≤s.size∧i= .int .i64 k∧Hid (∀j (hj:j<s.size),j<k→32≤(s[j].toNat:Int)∧(s[j].toNat:Int)≤126)) (fun i=>s.size - (intOf i).toNat)
 case atStart=>exact ⟨0,Nat.zero_le _,rfl,fun j _ h=>by omega⟩
 case round=>
  obtain ⟨k,hk,rfl,hrel⟩:=hrel
  by_cases hlt:k<s.size
  ·by_cases hg:32≤(s[k].toNat:Int)∧(s[k].toNat:Int)≤126
   ·obtain ⟨h1,h2⟩:=hg
    go_wp2
    go_round
    case rel=>exact ⟨k+1,by omega,by go_num,fun j hj hjk=>by
     by_cases e:j=k
     ·subst e;exact ⟨h1,h2⟩
     ·exact hrel.out j hj (by omega)⟩
    case measure=>simp [intOf];omega
   ·have hf:Hid (plainB s=false):=by
     show plainB s=false
     rw [Bool.eq_false_iff];exact fun h=>hg (plain_get h k hlt)
    by_cases hg1:(s[k].toNat:Int)<32
    ·go_wp2
     go_ret
     exact ⟨ret_bool hf.out.symm,rfl⟩
    ·have hg2:126<(s[k].toNat:Int):=by omega
     go_wp2
     go_ret
     exact ⟨ret_bool hf.out.symm,rfl⟩
  ·have hkk:k=s.size:=by omega
   have hf:Hid (plainB s=true):=plain_of fun j hj=>hrel.out j hj (by omega)
   subst hkk
   go_wp2
   go_ret
   exact ⟨ret_bool hf.out.symm,rfl⟩
def rightV (ty n x y:Int) (s:ByteArray):Int:=
 if ty<1∨6<ty then 11
 else if (2<ty∧n≠0)∨(ty≠3∧ty≠4∧x≠0)∨(ty≠4∧y≠0)∨(ty<5∧s.size≠0) then 3
 else if ty=1∧n≠0∧n≠1 then 4
 else if 2048<s.size then 2
 else if ty=5∧plainB s=false then 3
 else 0
theorem rright_any (ty n x y:Int) (s:ByteArray) (w:World) (hs:s.size≤9223372036854775807):
 Calls Tryz.prog 121 #[.agg #[.int .u8 ty, .int .i64 n, .int .u64 x, .int .u64 y, .string s]] w fun e w' =>
  e= .returned (.int .i64 (rightV ty n x y s))∧Ext w w' :=by
 have HP:=Hm (fun w=>rplain_any s w hs)
 go_enter Tryz.func121,Tryz.ntmps121
 go_wp2_with (go_at_call 159;refine (HP.out _).mono ?_;rintro e w' ⟨rfl,rfl⟩)
 all_goals
  go_ret
  refine ⟨ret_int ?_,by exact eX⟩
  clear HP
  try simp only [isEmpty_size] at*
  unfold rightV
  (repeat' split)<;>(first|rfl|(exfalso;omega)|(simp_all;done)|(simp_all;omega)|(exfalso;simp_all;omega))
theorem vplain_any (s:ByteArray) (w:World) (hs:s.size≤9223372036854775807):
 Calls Tryz.prog 175 #[.string s] w fun e w' =>e= .returned (.bool (plainB s))∧w=w' :=by
 go_enter Tryz.func175,Tryz.ntmps175
 go_wp2
 go_loop [6] (fun i=>∃k:Nat,k≤s.size∧i= .int .i64 k∧Hid (∀j (hj:j<s.size),j<k→32≤(s[j].toNat:Int)∧(s[j].toNat:Int)≤126)) (fun i=>s.size - (intOf i).toNat)
 case atStart=>exact ⟨0,Nat.zero_le _,rfl,fun j _ h=>by omega⟩
 case round=>
  obtain ⟨k,hk,rfl,hrel⟩:=hrel
  by_cases hlt:k<s.size
  ·by_cases hg:32≤(s[k].toNat:Int)∧(s[k].toNat:Int)≤126
   ·obtain ⟨h1,h2⟩:=hg
    go_wp2
    go_round
    case rel=>exact ⟨k+1,by omega,by go_num,fun j hj hjk=>by
     by_cases e:j=k
     ·subst e;exact ⟨h1,h2⟩
     ·exact hrel.out j hj (by omega)⟩
    case measure=>simp [intOf];omega
   ·have hf:Hid (plainB s=false):=by
     show plainB s=false
     rw [Bool.eq_false_iff];exact fun h=>hg (plain_get h k hlt)
    by_cases hg1:(s[k].toNat:Int)<32
    ·go_wp2
     go_ret
     exact ⟨ret_bool hf.out.symm,rfl⟩
    ·have hg2:126<(s[k].toNat:Int):=by omega
     go_wp2
     go_ret
     exact ⟨ret_bool hf.out.symm,rfl⟩
  ·have hkk:k=s.size:=by omega
   have hf:Hid (plainB s=true):=plain_of fun j hj=>hrel.out j hj (by omega)
   subst hkk
   go_wp2
   go_ret
   exact ⟨ret_bool hf.out.symm,rfl⟩
def sameB (ty n:Int) (x y:Nat) (s:ByteArray) (ty' n' :Int) (x' y' :Nat) (s' :ByteArray):Bool:=decide (ty=ty'∧n=n'∧x=x'∧y=y'∧s=s')
theorem str_beq (s t:ByteArray):(s.toList==t.toList)=decide (s=t):=by
 rw [ByteArray.toList_eq,ByteArray.toList_eq,Bool.eq_iff_iff,beq_iff_eq,decide_eq_true_eq]
 constructor
 ·intro h;cases s;cases t;simp only [ByteArray.mk.injEq];exact Array.toList_inj.1 h
 ·intro h;rw [h]
theorem vsame_any (ty n:Int) (x y:Nat) (s:ByteArray) (ty' n' :Int) (x' y' :Nat) (s' :ByteArray) (w:World):
 Calls Tryz.prog 173 #[.agg #[.int .u8 ty, .int .i64 n, .complex .f64 x y, .string s], .agg #[.int .u8 ty', .int .i64 n', .complex .f64 x' y', .string s']] w fun e w' =>
  e= .returned (.bool (sameB ty n x y s ty' n' x' y' s'))∧Ext w w' :=by
 go_enter Tryz.func173,Tryz.ntmps173
 go_wp2_with (go_at_call 122;refine (vbits_any _ _ _).mono ?_;rintro e w1 ⟨rfl,rfl⟩)
 all_goals
  go_ret
  refine ⟨ret_bool ?_,by exact eX⟩
  unfold sameB
  first
   |(rw [str_beq];exact decide_eq_decide.2 ⟨fun h=>⟨by omega,by omega,by omega,by omega,h⟩,fun h=>h.2.2.2.2⟩)
   |(symm;rw [decide_eq_false_iff_not];intro h;omega)
def ownN (ty n:Int):Int:=if ty=1∨ty=2 then n else 0
def ownX (ty:Int) (x:Nat):Nat:=if ty=3∨ty=4 then x else 0
def ownY (ty:Int) (y:Nat):Nat:=if ty=4 then y else 0
def ownS (ty:Int) (s:ByteArray):ByteArray:=if ty=5∨ty=6 then s else ByteArray.empty
theorem vvown_any (ty n:Int) (x y:Nat) (s:ByteArray) (w:World):
 Calls Tryz.prog 174 #[.agg #[.int .u8 ty, .int .i64 n, .complex .f64 x y, .string s]] w fun e w' =>
  e= .returned (.agg #[.int .u8 ty, .int .i64 (ownN ty n), .complex .f64 (ownX ty x) (ownY ty y), .string (ownS ty s)])∧Ext w w' :=by
 go_enter Tryz.func174,Tryz.ntmps174
 go_wp2_with (first
  |(go_at_call 122;refine (vbits_any _ _ _).mono ?_;rintro e w1 ⟨rfl,rfl⟩)
  |(go_at_call 152;refine (vof_any _ _ _).mono ?_;rintro e w2 ⟨rfl,rfl⟩;simp only [Int.toNat_natCast,Int.toNat_zero]))
 all_goals
  simp [bodyPost,results,Tryz.results174,go_sem, *]
  refine ⟨?_,by exact eX⟩
  unfold ownN ownX ownY ownS
  first
   |(simp_all;done)
   |(simp_all;rfl)
theorem size_zero (s:ByteArray):s=ByteArray.empty↔s.size=0:=by
 constructor
 ·rintro rfl;rfl
 ·intro h
  cases s with
  |mk d=>
   have h2:d= #[]:=Array.eq_empty_of_size_eq_zero h
   subst h2;rfl
theorem same_own (ty n:Int) (x y:Nat) (s:ByteArray) (h:1≤ty∧ty≤6):sameB ty n x y s ty (ownN ty n) (ownX ty x) (ownY ty y) (ownS ty s)=true↔
 ¬ ((2<ty∧n≠0)∨(ty≠3∧ty≠4∧(x:Int)≠0)∨(ty≠4∧(y:Int)≠0)∨(ty<5∧s.size≠0)):=by
 have ht:ty=1∨ty=2∨ty=3∨ty=4∨ty=5∨ty=6:=by omega
 unfold sameB
 rw [decide_eq_true_eq]
 rcases ht with rfl|rfl|rfl|rfl|rfl|rfl<;>simp [ownN,ownX,ownY,ownS]<;>grind
theorem vright_any (ty n:Int) (x y:Nat) (s:ByteArray) (w:World) (hs:s.size≤9223372036854775807):
 Calls Tryz.prog 148 #[.agg #[.int .u8 ty, .int .i64 n, .complex .f64 x y, .string s]] w fun e w' =>
  e= .returned (.int .i64 (rightV ty n x y s))∧Ext w w' :=by
 have HP:=Hm (fun w=>vplain_any s w hs)
 have HO:=Hm (fun w=>vvown_any ty n x y s w)
 obtain ⟨S,hS⟩:∃S,S=sameB ty n x y s ty (ownN ty n) (ownX ty x) (ownY ty y) (ownS ty s):=⟨_,rfl⟩
 have HSa:=Hm (fun w=>vsame_any ty n x y s ty (ownN ty n) (ownX ty x) (ownY ty y) (ownS ty s) w)
 rw [←hS] at HSa
 have HS2:Hid (1≤ty∧ty≤6→(S=true↔¬ ((2<ty∧n≠0)∨(ty≠3∧ty≠4∧(x:Int)≠0)∨(ty≠4∧(y:Int)≠0)∨(ty<5∧s.size≠0)))):=fun h=>by rw [hS];exact same_own ty n x y s h
 clear hS
 generalize ownN ty n=n' at*
 generalize ownX ty x=x' at*
 generalize ownY ty y=y' at*
 generalize ownS ty s=s' at*
 go_enter Tryz.func148,Tryz.ntmps148
 go_upto_region 3 with (fail)
 all_goals try (go_ret;exact ⟨ret_int (by unfold rightV;rw [if_pos (by omega)]),by exact eX⟩)
 go_region_held3 (fun w' =>Ext (w.alloc (.cells #[.int .u8 ty, .int .i64 n, .complex .f64 x y, .string s] 155)) w'∧(∀b o,b<(w.alloc (.cells #[.int .u8 ty, .int .i64 n, .complex .f64 x y, .string s] 155)).heap.size→w'.cell? ⟨b,o,none⟩=(w.alloc (.cells #[.int .u8 ty, .int .i64 n, .complex .f64 x y, .string s] 155)).cell? ⟨b,o,none⟩)∧(∀b o,b<(w.alloc (.cells #[.int .u8 ty, .int .i64 n, .complex .f64 x y, .string s] 155)).heap.size→w'.frozen? ⟨b,o,none⟩=(w.alloc (.cells #[.int .u8 ty, .int .i64 n, .complex .f64 x y, .string s] 155)).frozen? ⟨b,o,none⟩)) ((exact held_of (by exact eX)))
  (first
   |(go_at_call 174;refine (HO.out _).mono ?_;rintro e w1 ⟨rfl,hb1⟩)
   |(go_at_call 173;refine (HSa.out _).mono ?_;rintro e w2 ⟨rfl,hb2⟩))
 go_wp2_with (go_at_call 175;refine (HP.out _).mono ?_;rintro e w3 ⟨rfl,rfl⟩)
 all_goals
  go_ret
  refine ⟨ret_int ?_,by exact eX⟩
  have hS3:=HS2.out ⟨by omega,by omega⟩
  clear HP HO HSa HS2
  unfold rightV
  cases S<;>simp only [Bool.not_true,Bool.not_false,Bool.false_eq_true,false_iff,true_iff,Classical.not_not,reduceCtorEq] at*
  all_goals first
   |((repeat' split)<;>(first|rfl|(exfalso;omega)|(simp_all;done)|(simp_all;omega)|(exfalso;simp_all;omega)))
structure V where
 ty:Int
 n:Int
 x:Nat
 y:Nat
 s:ByteArray
def V.zero:V:=⟨0,0,0,0,ByteArray.empty⟩
def V.right (v:V):Int:=rightV v.ty v.n v.x v.y v.s
theorem right_zero {ty n x y:Int} {s:ByteArray} (h:rightV ty n x y s=0):1≤ty∧ty≤6∧s.size≤2048∧(ty=1→n=0∨n=1)∧(2<ty→n=0)∧(ty≠3→ty≠4→x=0)∧(ty≠4→y=0)∧(ty<5→s.size=0)∧(ty=5→plainB s=true):=by
 unfold rightV at h
 (repeat' split at h)<;>first|(exfalso;omega)|skip
 rename_i h1 h2 h3 h4 h5
 refine ⟨by omega,by omega,by omega,by omega,by omega,by omega,by omega,by omega, ?_⟩
 intro h6
 cases hp:plainB s
 ·exact absurd ⟨h6,hp⟩ h5
 ·rfl
theorem cells_new (w:World) (cs:Array Value) (t:TypeId):∀j u,cs.toList[j]? =some u→(w.alloc (.cells cs t)).cell? ((⟨w.heap.size,0,none⟩:Addr).add j)=some u:=by
 intro j u h
 have e:(⟨w.heap.size,0,none⟩:Addr).add j=⟨w.heap.size,j,none⟩:=by
  unfold Addr.add;split
  ·rename_i h0;subst h0;rfl
  ·simp
 rw [e,(Blk.new w cs t).cell j]
 simpa using h
theorem Ext.grown {w w1 w2:World} (h:Ext w w1) {e:TypeId} {size n:Nat} {v:Value} {xs:List Value} (ho:w1.ownsRow w.heap.size e size v n xs) (hg:w1.grownBy w2 v.ownBlock):Ext w w2:=
 Below.grown h hg h.size fun k hk=>(ho.lt k hk).1
theorem owns_ext {w w1:World} {base:Nat} {e:TypeId} {size n:Nat} {v:Value} {xs:List Value} (h:w.ownsRow base e size v n xs) (he:Ext w w1):w1.ownsRow base e size v n xs:=by
 obtain ⟨h1,h2⟩:=h
 refine ⟨h1, ?_⟩
 rcases h2 with h2|⟨g,cap,cur,hv,hg,hh,hr⟩
 ·exact .inl h2
 ·exact .inr ⟨g,cap,cur,hv,hg,Blk.ext (b:=g) hh he,hr⟩
theorem flat_get {α:Type} (k:Nat):∀(xss:List (List α)),(∀xs∈xss,xs.length=k)→∀i,i<xss.length→∀j,j<k→xss.flatten[i*k+j]? =(xss.getD i [])[j]? :=by
 intro xss
 induction xss with
 |nil=>intro _ i hi;simp at hi
 |cons x xss ih=>
  intro h i hi j hj
  have hx:x.length=k:=h x (by simp)
  rw [List.flatten_cons]
  cases i with
  |zero=>rw [List.getElem?_append_left (by omega)];simp
  |succ i=>
   have e:(i+1)*k+j=x.length+(i*k+j):=by rw [hx,Nat.succ_mul];omega
   rw [e,List.getElem?_append_right (by omega),Nat.add_sub_cancel_left]
   have:=ih (fun xs hxs=>h xs (by simp [hxs])) i (by simpa using hi) j hj
   rw [this];simp
theorem flat_length {α:Type} (k:Nat) (xss:List (List α)) (h:∀xs∈xss,xs.length=k):xss.flatten.length=xss.length*k:=by
 induction xss with
 |nil=>simp
 |cons x xss ih=>
  have:=ih (fun xs hxs=>h xs (by simp [hxs]))
  have hx:x.length=k:=h x (by simp)
  simp only [List.flatten_cons,List.length_append,List.length_cons,this,hx,Nat.succ_mul];omega
theorem Sl.of_owns {w:World} {base:Nat} {e:TypeId} {k:Nat} {v:Value} {xss:List (List Value)} (ho:w.ownsRow base e k v xss.length xss.flatten) (hk:∀xs∈xss,xs.length=k):Sl w v k xss:=by
 obtain ⟨h1,h2⟩:=ho
 rcases h2 with ⟨rfl,h0⟩|⟨g,cap,cur,rfl,hg,hh,hn,hcap,hsz,htake⟩
 ·exact ⟨none,0,by rw [h0], .inl (List.length_eq_zero_iff.1 h0)⟩
 ·refine ⟨_,cap,rfl, .inr ⟨g,0,rfl,Blk.lt (b:=g) hh, ?_⟩⟩
  intro i hi j hj
  have hb:Blk w g cur e:=hh
  rw [hb.cell,←flat_get k xss hk i hi j hj,←htake,List.getElem?_take]
  have hlt:i*k+j<xss.length*k:=by
   have:(i+1)*k≤xss.length*k:=Nat.mul_le_mul_right k (by omega)
   rw [Nat.succ_mul] at this;omega
  rw [if_pos hlt]
  simp
theorem Sl.new (w:World) (cs:Array Value) (t:TypeId) (k n c:Nat) (xss:List (List Value)) (h1:cs.toList=xss.flatten) (h2:∀xs∈xss,xs.length=k) (h3:n=xss.length):
 Sl (w.alloc (.cells cs t)) (.slice (some ⟨w.heap.size,0,none⟩) n c) k xss:=by
 subst h3
 refine ⟨_,c,rfl, .inr ⟨w.heap.size,0,rfl,(Blk.new w cs t).lt, ?_⟩⟩
 intro i hi j hj
 rw [(Blk.new w cs t).cell,←flat_get k xss h2 i hi j hj,←h1]
 simp
theorem Sl.shape {w:World} {v:Value} {k n:Nat} {xss:List (List Value)} (h:Sl w v k xss) (hn:xss.length=n):
 ∃a cap,v= .slice a n cap∧(n=0∨∃b o,a=some ⟨b,o,none⟩∧b<w.heap.size∧∀i,i<n→∀j,j<k→w.cell? ⟨b,o+i*k+j,none⟩=(xss.getD i [])[j]?):=by
 subst hn
 obtain ⟨a,cap,hv,h⟩:=h
 exact ⟨a,cap,hv,h.imp (fun e=>by rw [e];rfl) id⟩
theorem run_equalIn_slice_nil' {P:Program} (w:World) (d:Nat) (t e:TypeId) (a:Option Addr) (l c:Nat) (h:P.underlying t=some (.slice e)):(Op.equalIn (d+1) t (.slice a l c) (.slice none 0 0)).run P w= .ok a.isNone w:=by
 cases a<;>simp [Op.equalIn,run_underlying h]
@[go_sem] theorem run_eql_slice_nil' {P:Program} (w:World) (t e:TypeId) (a:Option Addr) (l c:Nat) (h:P.underlying t=some (.slice e)):(binOp .eql t (.slice a l c) (.slice none 0 0)).run P w= .ok (.bool a.isNone) w:=by
 have e:(Op.equal t (.slice a l c) (.slice none 0 0)).run P w= .ok a.isNone w:=by
  exact run_equalIn_slice_nil' w 9999 t e a l c h
 simp [binOp,e]
theorem Tryz.infoU8:(Tryz.prog.info? 5).map (fun i=>(i.zero,i.size,i.bytes))=some (some (.int .u8 0),1,1):=by kernel_rfl
def bs (l:List Int):List Value:=l.map (Value.int .u8)
def bcell (x:Int):List Value:= [.int .u8 x]
theorem bs_len (l:List Int):(bs l).length=l.length:=by simp [bs]
theorem bs_flat (l:List Int):(l.map bcell).flatten=bs l:=by
 induction l with
 |nil=>rfl
 |cons x l ih=>simp [bs,bcell] at*;exact ih
theorem bs_append (l m:List Int):bs (l++m)=bs l++bs m:=by simp [bs]
def OB (w:World) (base:Nat) (v:Value) (l:List Int):Prop:=w.ownsRow base 5 1 v l.length (bs l)
theorem OB.ext {w w1:World} {base:Nat} {v:Value} {l:List Int} (h:OB w base v l) (he:Ext w w1):OB w1 base v l:=owns_ext h he
theorem OB.alloc {w:World} {base:Nat} {v:Value} {l:List Int} (h:OB w base v l) (o:Obj):OB (w.alloc o) base v l:=h.ext ((Ext.refl w).alloc o)
theorem OB.base {w:World} {base b:Nat} {v:Value} {l:List Int} (h:OB w b v l) (hb:base≤b):OB w base v l:=by
 obtain ⟨h1,h2⟩:=h
 refine ⟨h1, ?_⟩
 rcases h2 with h2|⟨g,cap,cur,hv,hg,hr⟩
 ·exact .inl h2
 ·exact .inr ⟨g,cap,cur,hv,Nat.le_trans hb hg,hr⟩
theorem OB.nil (w:World) (base:Nat):OB w base (.slice none 0 0) []:=World.ownsRow_nil _ _ _ _
theorem OB.sl {w:World} {base:Nat} {v:Value} {l:List Int} (h:OB w base v l):Sl w v 1 (l.map bcell):=
 Sl.of_owns (by rw [List.length_map,bs_flat];exact h) (by intro xs hxs;simp at hxs;obtain ⟨x,_,rfl⟩:=hxs;rfl)
theorem OB.shape {w:World} {base:Nat} {v:Value} {l:List Int} (h:OB w base v l):∃a cap,v= .slice a l.length cap:=by
 rcases h.2 with ⟨rfl,h0⟩|⟨g,cap,cur,hv,_⟩
 ·exact ⟨none,0,by rw [h0]⟩
 ·exact ⟨_,cap,hv⟩
theorem Sl.bytes {w:World} {b o len cap:Nat} {l:List Int} (h:Sl w (.slice (some ⟨b,o,none⟩) len cap) 1 (l.map bcell)) (hl:0<len):b<w.heap.size∧len=l.length∧∀i,i<len→w.cell? ⟨b,o+i,none⟩=some (.int .u8 (l.getD i 0)):=by
 obtain ⟨a,cap',hv,hs⟩:=h
 simp only [Value.slice.injEq,List.length_map] at hv
 obtain ⟨rfl,rfl,rfl⟩:=hv
 rcases hs with h0|⟨b',o',ha,hb,hc⟩
 ·simp at h0;subst h0;simp at hl
 ·simp only [Option.some.injEq,Addr.mk.injEq] at ha
  obtain ⟨rfl,rfl, -⟩:=ha
  refine ⟨hb,rfl,fun i hi=> ?_⟩
  have:=hc i (by simpa using hi) 0 (by omega)
  rw [Nat.mul_one,Nat.add_zero] at this
  rw [this]
  simp [bcell,List.getD,List.getElem?_map,List.getElem?_eq_getElem hi]
theorem bytes_news {w:World} {b o:Nat} {l:List Int} (h:∀i,i<l.length→w.cell? ⟨b,o+i,none⟩=some (.int .u8 (l.getD i 0))):∀j u,(bs l)[j]? =some u→w.cell? ((⟨b,o,none⟩:Addr).add j)=some u:=by
 intro j u hj
 have hjl:j<l.length:=by
  rcases Nat.lt_or_ge j l.length with h|h
  ·exact h
  ·simp [bs,List.getElem?_eq_none h] at hj
 have hplain:(⟨b,o,none⟩:Addr).add j=⟨b,o+j,none⟩:=by unfold Addr.add;split<;>simp_all
 rw [hplain,h j hjl]
 simp [bs,List.getElem?_map,List.getElem?_eq_getElem hjl] at hj
 subst hj
 simp [List.getD,List.getElem?_eq_getElem hjl]
theorem bs_one (l:List Int):∀u∈bs l,u.oneCell' =true:=by
 intro u hu;simp [bs] at hu;obtain ⟨x,_,rfl⟩:=hu;rfl
theorem clone_any (v:Value) (l:List Int) (w:World) (hl:Sl w v 1 (l.map bcell)) (hlen:l.length≤1000000):
 Calls Tryz.prog 48 #[v] w fun e w' =>∃v',e= .returned v'∧OB w' w.heap.size v' l∧Ext w w' :=by
 obtain ⟨i0,hi,hz0,hz1,hz2⟩:=info_parts Tryz.infoU8
 have hl0:=hl
 obtain ⟨a,cap,rfl,hs⟩:=hl
 have HS:=Hm hs
 clear hs
 cases a with
 |none=>
  have h0:l.length=0:=by
   rcases HS.out with h|⟨b,o,ha,_⟩
   ·simpa using h
   ·cases ha
  have hn:l= []:=List.length_eq_zero_iff.1 h0
  subst hn
  clear hl0 HS
  go_enter Tryz.func48,Tryz.ntmps48
  go_wp2
  go_ret
  exact ⟨_,rfl,OB.nil _ _,by exact eX⟩
 |some ad=>
  have hnews:∀j u,(bs l)[j]? =some u→(w.alloc (.cells #[] 5)).cell? (ad.add j)=some u:=by
   rcases HS.out with h|⟨b,o,ha,hb,hc⟩
   ·have h0:l= []:=by simpa using h
    subst h0;intro j u hj;simp [bs] at hj
   ·cases ha
    refine bytes_news fun i hi=> ?_
    have hE:Ext w (w.alloc (.cells #[] 5)):=(Ext.refl w).alloc _
    rw [hE.cells.1 b _ hb]
    exact (Sl.bytes hl0 (by simp;omega)).2.2 i (by simpa using hi)
  have HN:=Hm hnews
  clear hl0 HS hnews
  simp only [List.length_map]
  go_enter Tryz.func48,Tryz.ntmps48
  go_wp2_with (at_builtin;refine wpList_append_own _ rfl _ _ 23 rfl w.heap.size 5 i0 _ 1 1 Tryz.underlying23 hi hz0 hz1 hz2 rfl (by decide) (.slice (some ⟨w.heap.size,0,none⟩) 0 0) 0 [] rfl ?c0 _ l.length _ (bs l) rfl (by rw [bs_len,Nat.mul_one]) HN.out (bs_one l) ?c3 ?c4 ?c5 ?_)
  case c0=>exact ⟨rfl, .inr ⟨_,0, #[],rfl,Nat.le_refl _,Blk.new w #[] _,Nat.le_refl _,Nat.zero_le _,rfl,rfl⟩⟩
  case c3=>unfold maxLen;omega
  case c4=>omega
  case c5=>simp
  intro v' w2 hown hgrow _
  have hown:OB w2 w.heap.size v' l:=by simpa [OB] using hown
  have hE2:Ext w w2:=((Ext.refl w).alloc (.cells #[] 5)).grown (v:= .slice (some ⟨w.heap.size,0,none⟩) 0 0) (e:=5) (size:=1) (n:=0) (xs:= []) ⟨rfl, .inr ⟨_,0, #[],rfl,Nat.le_refl _,Blk.new w #[] _,Nat.le_refl _,Nat.zero_le _,rfl,rfl⟩⟩ hgrow
  have HO:=Hm hown
  have HE2:=Hm hE2
  clear hown hE2 hgrow
  go_wp2
  go_ret
  exact ⟨_,rfl,HO.out,HE2.out⟩
theorem OB.push {w:World} {base:Nat} {v:Value} {l m:List Int} {n:Nat} (h:w.ownsRow base 5 1 v n (bs l++bs m)) (hn:n=l.length+m.length):OB w base v (l++m):=by
 unfold OB;rw [bs_append,List.length_append,←hn];exact h
theorem OB.grown {W w1 w2:World} (h:Ext W w1) {v:Value} {l:List Int} (ho:OB w1 W.heap.size v l) (hg:w1.grownBy w2 v.ownBlock):Ext W w2:=Ext.grown h ho hg
theorem cells_one (w:World) (x:Int):∀j u,(bs [x])[j]? =some u→(w.alloc (.cells #[.int .u8 x] 5)).cell? ((⟨w.heap.size,0,none⟩:Addr).add j)=some u:=cells_new w #[.int .u8 x] _
def byteAt (x:Int) (k:Nat):Int:=x / 2 ^ (8*k)%256
def wordL (x:Int):List Int:=(List.range 8).map (byteAt x)
theorem putWord_any (W:World) (v:Value) (l:List Int) (x:Int) (w:World) (hE:Ext W w) (ho:OB w W.heap.size v l) (hlen:l.length≤1000000):
 Calls Tryz.prog 181 #[v, .int .u64 x] w fun e w' =>∃v',e= .returned v'∧OB w' W.heap.size v' (l++wordL x)∧Ext W w' :=by
 obtain ⟨i0,hi,hz0,hz1,hz2⟩:=info_parts Tryz.infoU8
 have HE0:=Hm hE
 have HO0:=Hm ho
 clear hE ho
 go_enter Tryz.func181,Tryz.ntmps181
 go_wp2
 go_loopw [0,6] (fun v i wr=>∃k:Nat,k≤8∧i= .int .i64 k∧Hid (OB wr W.heap.size v (l++(List.range k).map (byteAt x)))∧Hid (Ext W wr)) (fun _ i _=>8 - (intOf i).toNat)
 case atStart=>exact ⟨0,by omega,rfl,Hm (by simpa using HO0.out),HE0⟩
 case round=>
  obtain ⟨k,hk,rfl,hown,hE⟩:=hrel
  by_cases hlt:k<8
  ·go_wp2_with (at_builtin;refine wpList_append_own _ rfl _ _ 23 rfl W.heap.size 5 i0 _ 1 1 Tryz.underlying23 hi hz0 hz1 hz2 rfl (by decide) _ _ _ rfl (hown.out.alloc _) ⟨_,0,none⟩ 1 1 (bs [byteAt x k]) rfl rfl ?c1 ?c2 ?c3 ?c4 ?c5 ?_)
   case c1=>exact cells_one _ _
   case c2=>exact bs_one _
   case c3=>unfold maxLen;simp;omega
   case c4=>simp;omega
   case c5=>have:=hE.out.size;simp;omega
   intro v' w2 hown' hgrow _
   have hE2:=OB.grown (hE.out.alloc _) (hown.out.alloc _) hgrow
   have HO:=Hm (OB.push hown' (by simp))
   have HE2:=Hm hE2
   clear hown' hgrow hE2
   go_wp2
   go_roundw
   case rel=>exact ⟨k+1,by omega,by go_num,Hm (by rw [List.range_succ,List.map_append,←List.append_assoc];exact HO.out),HE2⟩
   case measure=>simp [intOf];omega
  ·have hkk:k=8:=by omega
   subst hkk
   go_wp2
   go_ret
   exact ⟨_,rfl,hown.out,hE.out⟩
def sevens (x:Nat):List Int:=if h:x<128 then [(x:Int)] else ((x%128+128:Nat):Int)::sevens (x / 128)
termination_by x
decreasing_by omega
theorem sevens_lt {x:Nat} (h:x<128):sevens x= [(x:Int)]:=by rw [sevens,dif_pos h]
theorem sevens_ge {x:Nat} (h: ¬ x<128):sevens x=((x%128+128:Nat):Int)::sevens (x / 128):=by rw [sevens,dif_neg h]
theorem sevens_len (x:Nat):∀k,x<128 ^ (k+1)→(sevens x).length≤k+1:=by
 intro k
 induction k generalizing x with
 |zero=>intro h;rw [sevens_lt (by simpa using h)];simp
 |succ k ih=>
  intro h
  by_cases hx:x<128
  ·rw [sevens_lt hx];simp
  ·rw [sevens_ge hx,List.length_cons]
   have:=ih (x / 128) (by rw [Nat.div_lt_iff_lt_mul (by decide)];rw [Nat.pow_succ] at h;exact h)
   omega
theorem sevens_len10 {x:Nat} (h:x<2 ^ 64):(sevens x).length≤10:=sevens_len x 9 (Nat.lt_of_lt_of_le h (by decide))
theorem or128 (m:Nat):bits BinOp.or IntKind.u8 ((m:Int)%256) 128=(m:Int)%128+128:=by
 have h:∀r:Nat,r<256→bits BinOp.or IntKind.u8 (r:Int) 128=(r:Int)%128+128:=by decide+kernel
 have:=h (m%256) (Nat.mod_lt _ (by decide))
 rw [show ((m:Int)%256)=((m%256:Nat):Int) by omega,this]
 omega
theorem putUint_any (v:Value) (l:List Int) (x:Nat) (w:World) (hl:Sl w v 1 (l.map bcell)) (hx:x<2 ^ 64) (hlen:l.length≤1000000):
 Calls Tryz.prog 95 #[v, .int .u64 x] w fun e w' =>∃v',e= .returned v'∧OB w' w.heap.size v' (l++sevens x)∧Ext w w' :=by
 obtain ⟨i0,hi,hz0,hz1,hz2⟩:=info_parts Tryz.infoU8
 have HL:=Hm hl
 have HX:=Hm (sevens_len10 hx)
 go_enter Tryz.func95,Tryz.ntmps95
 have hor:=or128
 go_wp2
 refine wp_scope_jumps 0 (fun a' w' =>∃(m:Nat) (v' :Value) (ll:List Int) (u6 u7 u8 u9 u10 u11 u12 u13 u14 u15 u16 u17 u18 u19 u20 u21 u22:Value),a' = { tmps:= #[v, .int .u64 m,undef,undef, .slice none 0 0,v',u6,u7,u8,u9,u10,u11,u12,u13,u14,u15,u16,u17,u18,u19,u20,u21,u22],defers:= [] } ∧m<2 ^ 64∧Hid (ll++sevens m=l++sevens x)∧Hid (OB w' w.heap.size v' ll)∧Hid (Ext w w')) (fun a' _=>(intOf (a'.tmps.getD 1 undef)).toNat) rfl ?_ ?_
 ·go_wp2_with (go_at_call 48;refine (clone_any v l _ HL.out hlen).mono ?_;rintro e w1 ⟨v1,rfl,ho1,hb1⟩;have HO1:=Hm ho1;have HE1:=Hm hb1;clear ho1 hb1)
  go_step3
  go_wp2_with (first
   |(at_builtin;refine wpList_append_own _ rfl _ _ 23 rfl w.heap.size 5 i0 _ 1 1 Tryz.underlying23 hi hz0 hz1 hz2 rfl (by decide) _ _ _ rfl (HO1.out.alloc _) ⟨_,0,none⟩ 1 1 (bs [(x:Int)%128+128]) rfl rfl ?c1a ?c2a ?c3a ?c4a ?c5a ?_)
   |(at_builtin;refine wpList_append_own _ rfl _ _ 23 rfl w.heap.size 5 i0 _ 1 1 Tryz.underlying23 hi hz0 hz1 hz2 rfl (by decide) _ _ _ rfl (HO1.out.alloc _) ⟨_,0,none⟩ 1 1 (bs [(x:Int)]) rfl rfl ?d1a ?d2a ?d3a ?d4a ?d5a ?_))
  case c1a=>exact cells_one _ _
  case c2a=>exact bs_one _
  case c3a=>unfold maxLen;omega
  case c4a=>omega
  case c5a=>have:=HE1.out.size;simp;omega
  case d1a=>exact cells_one _ _
  case d2a=>exact bs_one _
  case d3a=>unfold maxLen;omega
  case d4a=>omega
  case d5a=>have:=HE1.out.size;simp;omega
  ·intro v2 w2 hown' hgrow _
   have hE2:=OB.grown (HE1.out.alloc _) (HO1.out.alloc _) hgrow
   have HO:=Hm (OB.push hown' (by simp))
   have HE2:=Hm hE2
   clear hown' hgrow hE2
   have h128: ¬ x<128:=by omega
   have E2:Hid (((x:Int) / 128)=((x / 128:Nat):Int)):=Hm (by omega)
   have E3:Hid (((x:Int)%128+128)=((x%128+128:Nat):Int)):=Hm (by omega)
   go_wp2
   go_step3
   exact ⟨rfl,⟨x / 128,v2,l++ [((x%128+128:Nat):Int)],_,_,_,_,_,_,_,_,_,_,_,_,_,_,_,_,_,by rw [←E2.out],by omega,Hm (by rw [(rfl:l++sevens x=l++sevens x).symm,sevens_ge h128,List.append_assoc,List.singleton_append]),Hm (by rw [←E3.out];exact HO.out),HE2⟩⟩
  ·intro v2 w2 hown' hgrow _
   have hE2:=OB.grown (HE1.out.alloc _) (HO1.out.alloc _) hgrow
   have HO:=Hm (OB.push hown' (by simp))
   have HE2:=Hm hE2
   clear hown' hgrow hE2
   have h128:x<128:=by omega
   go_wp2
   simp only [Exit.jump]
   go_ret
   exact ⟨_,rfl,by rw [←(rfl:l++sevens x=l++sevens x),sevens_lt h128];exact HO.out,HE2.out⟩
 ·rintro a' w' ⟨m,v',ll,u6,u7,u8,u9,u10,u11,u12,u13,u14,u15,u16,u17,u18,u19,u20,u21,u22,rfl,hm,hs,ho,hE⟩
  have hll:ll.length≤l.length+10:=by
   have:=congrArg List.length hs.out
   have:=HX.out
   simp only [List.length_append] at*
   omega
  go_wp2_with (first
   |(at_builtin;refine wpList_append_own _ rfl _ _ 23 rfl w.heap.size 5 i0 _ 1 1 Tryz.underlying23 hi hz0 hz1 hz2 rfl (by decide) _ _ _ rfl (ho.out.alloc _) ⟨_,0,none⟩ 1 1 (bs [(m:Int)%128+128]) rfl rfl ?c1b ?c2b ?c3b ?c4b ?c5b ?_)
   |(at_builtin;refine wpList_append_own _ rfl _ _ 23 rfl w.heap.size 5 i0 _ 1 1 Tryz.underlying23 hi hz0 hz1 hz2 rfl (by decide) _ _ _ rfl (ho.out.alloc _) ⟨_,0,none⟩ 1 1 (bs [(m:Int)]) rfl rfl ?d1b ?d2b ?d3b ?d4b ?d5b ?_))
  case c1b=>exact cells_one _ _
  case c2b=>exact bs_one _
  case c3b=>unfold maxLen;omega
  case c4b=>omega
  case c5b=>have:=hE.out.size;simp;omega
  case d1b=>exact cells_one _ _
  case d2b=>exact bs_one _
  case d3b=>unfold maxLen;omega
  case d4b=>omega
  case d5b=>have:=hE.out.size;simp;omega
  ·intro v2 w2 hown' hgrow _
   have hE2:=OB.grown (hE.out.alloc _) (ho.out.alloc _) hgrow
   have HO:=Hm (OB.push hown' (by simp))
   have HE2:=Hm hE2
   clear hown' hgrow hE2
   have h128: ¬ m<128:=by omega
   have E2:Hid (((m:Int) / 128)=((m / 128:Nat):Int)):=Hm (by omega)
   have E3:Hid (((m:Int)%128+128)=((m%128+128:Nat):Int)):=Hm (by omega)
   go_wp2
   go_step3
   exact ⟨rfl,⟨m / 128,v2,ll++ [((m%128+128:Nat):Int)],_,_,_,_,_,_,_,_,_,_,_,_,_,_,_,_,_,by rw [←E2.out],by omega,Hm (by rw [←hs.out,sevens_ge h128,List.append_assoc,List.singleton_append]),Hm (by rw [←E3.out];exact HO.out),HE2⟩,by simp [intOf];omega⟩
  ·intro v2 w2 hown' hgrow _
   have hE2:=OB.grown (hE.out.alloc _) (ho.out.alloc _) hgrow
   have HO:=Hm (OB.push hown' (by simp))
   have HE2:=Hm hE2
   clear hown' hgrow hE2
   have h128:m<128:=by omega
   go_wp2
   simp only [Exit.jump]
   go_ret
   exact ⟨_,rfl,by rw [←hs.out,sevens_lt h128];exact HO.out,HE2.out⟩
theorem u64_wrap (n:Int):IntKind.u64.wrap n=n%18446744073709551616:=by
 simp [IntKind.wrap,IntKind.signed,IntKind.bits]
def strL (s:ByteArray):List Int:=s.data.toList.map fun b=>(b.toNat:Int)
theorem strL_len (s:ByteArray):(strL s).length=s.size:=by simp [strL]
theorem and_split (k a b c d:Nat) (hb:b<2 ^ k) (hd:d<2 ^ k):(2 ^ k*a+b)&&&(2 ^ k*c+d)=2 ^ k*(a&&&c)+(b&&&d):=by
 apply Nat.eq_of_testBit_eq
 intro j
 have h:b&&&d<2 ^ k:=Nat.and_lt_two_pow _ hd
 rw [Nat.testBit_and,Nat.testBit_two_pow_mul_add _ hb,Nat.testBit_two_pow_mul_add _ hd,Nat.testBit_two_pow_mul_add _ h]
 split<;>rw [Nat.testBit_and]
theorem or_split (k a b c d:Nat) (hb:b<2 ^ k) (hd:d<2 ^ k):(2 ^ k*a+b)|||(2 ^ k*c+d)=2 ^ k*(a|||c)+(b|||d):=by
 apply Nat.eq_of_testBit_eq
 intro j
 have h:b|||d<2 ^ k:=Nat.or_lt_two_pow hb hd
 rw [Nat.testBit_or,Nat.testBit_two_pow_mul_add _ hb,Nat.testBit_two_pow_mul_add _ hd,Nat.testBit_two_pow_mul_add _ h]
 split<;>rw [Nat.testBit_or]
theorem or_apart (k a b:Nat) (hb:b<2 ^ k):b|||2 ^ k*a=2 ^ k*a+b:=by
 rw [Nat.or_comm,←Nat.two_pow_add_eq_or_of_lt hb]
def step8 (X:Int):Int:=bits BinOp.or IntKind.u64 (bits BinOp.and IntKind.u64 (X / 256) 71777214294589695) (IntKind.u64.wrap (bits BinOp.and IntKind.u64 X 71777214294589695*256))
def step16 (X:Int):Int:=bits BinOp.or IntKind.u64 (bits BinOp.and IntKind.u64 (X / 65536) 281470681808895) (IntKind.u64.wrap (bits BinOp.and IntKind.u64 X 281470681808895*65536))
def step32 (X:Int):Int:=bits BinOp.or IntKind.u64 (X / 4294967296) (IntKind.u64.wrap (X*4294967296))
theorem u64_wrap' (n:Int):IntKind.u64.wrap n=n%18446744073709551616:=by
 simp [IntKind.wrap,IntKind.signed,IntKind.bits]
theorem mask8 (q0 q1 q2 q3:Nat) (h0:q0<65536) (h1:q1<65536) (h2:q2<65536):
 (q0+65536*q1+4294967296*q2+281474976710656*q3)&&&71777214294589695=q0%256+65536*(q1%256)+4294967296*(q2%256)+281474976710656*(q3%256):=by
 have e:q0+65536*q1+4294967296*q2+281474976710656*q3=2 ^ 16*(2 ^ 16*(2 ^ 16*q3+q2)+q1)+q0:=by omega
 have m:(71777214294589695:Nat)=2 ^ 16*(2 ^ 16*(2 ^ 16*255+255)+255)+255:=by decide
 have a:∀q,q&&&255=q%256:=fun q=>Nat.and_two_pow_sub_one_eq_mod q 8
 rw [e,m,and_split 16 _ _ _ _ h0 (by decide),and_split 16 _ _ _ _ h1 (by decide),and_split 16 _ _ _ _ h2 (by decide),a,a,a,a]
 omega
theorem mask16 (r0 r1:Nat) (h0:r0<4294967296):
 (r0+4294967296*r1)&&&281470681808895=r0%65536+4294967296*(r1%65536):=by
 have e:r0+4294967296*r1=2 ^ 32*r1+r0:=by omega
 have m:(281470681808895:Nat)=2 ^ 32*65535+65535:=by decide
 have a:∀q,q&&&65535=q%65536:=fun q=>Nat.and_two_pow_sub_one_eq_mod q 16
 rw [e,m,and_split 32 _ _ _ _ h0 (by decide),a,a]
 omega
theorem join8 (a0 a1 a2 a3 b0 b1 b2 b3:Nat) (h0:a0<256) (h1:a1<256) (h2:a2<256) (h3:a3<256) (k0:b0<256) (k1:b1<256) (k2:b2<256):
 (a0+65536*a1+4294967296*a2+281474976710656*a3)|||(256*(b0+65536*b1+4294967296*b2+281474976710656*b3))=
 (a0+256*b0)+65536*(a1+256*b1)+4294967296*(a2+256*b2)+281474976710656*(a3+256*b3):=by
 have e:a0+65536*a1+4294967296*a2+281474976710656*a3=2 ^ 16*(2 ^ 16*(2 ^ 16*a3+a2)+a1)+a0:=by omega
 have m:256*(b0+65536*b1+4294967296*b2+281474976710656*b3)=2 ^ 16*(2 ^ 16*(2 ^ 16*(2 ^ 8*b3)+2 ^ 8*b2)+2 ^ 8*b1)+2 ^ 8*b0:=by omega
 rw [e,m,or_split 16 _ _ _ _ (by omega) (by omega),or_split 16 _ _ _ _ (by omega) (by omega),or_split 16 _ _ _ _ (by omega) (by omega),or_apart 8 _ _ h0,or_apart 8 _ _ h1,or_apart 8 _ _ h2,or_apart 8 _ _ h3]
 omega
theorem join16 (a0 a1 b0 b1:Nat) (h0:a0<65536) (h1:a1<65536) (k0:b0<65536):
 (a0+4294967296*a1)|||(65536*(b0+4294967296*b1))=(a0+65536*b0)+4294967296*(a1+65536*b1):=by
 have e:a0+4294967296*a1=2 ^ 32*a1+a0:=by omega
 have m:65536*(b0+4294967296*b1)=2 ^ 32*(2 ^ 16*b1)+2 ^ 16*b0:=by omega
 rw [e,m,or_split 32 _ _ _ _ (by omega) (by omega),or_apart 16 _ _ h0,or_apart 16 _ _ h1]
 omega
theorem step8_eq (q0 q1 q2 q3:Nat) (h0:q0<65536) (h1:q1<65536) (h2:q2<65536) (h3:q3<65536):
 step8 ((q0+65536*q1+4294967296*q2+281474976710656*q3:Nat):Int)=(((q0 / 256+256*(q0%256))+65536*(q1 / 256+256*(q1%256))+4294967296*(q2 / 256+256*(q2%256))+281474976710656*(q3 / 256+256*(q3%256)):Nat):Int):=by
 unfold step8
 have d:(((q0+65536*q1+4294967296*q2+281474976710656*q3:Nat):Int) / 256)=(((q0 / 256+256*(q1%256))+65536*(q1 / 256+256*(q2%256))+4294967296*(q2 / 256+256*(q3%256))+281474976710656*(q3 / 256):Nat):Int):=by omega
 have m:=bits_and_u64_nat (q0+65536*q1+4294967296*q2+281474976710656*q3) 71777214294589695 (by omega) (by decide)
 have m2:=bits_and_u64_nat ((q0 / 256+256*(q1%256))+65536*(q1 / 256+256*(q2%256))+4294967296*(q2 / 256+256*(q3%256))+281474976710656*(q3 / 256)) 71777214294589695 (by omega) (by decide)
 rw [mask8 _ _ _ _ h0 h1 h2] at m
 rw [mask8 _ _ _ _ (by omega) (by omega) (by omega)] at m2
 rw [d]
 have c:(71777214294589695:Int)=((71777214294589695:Nat):Int):=rfl
 rw [c,m,m2,u64_wrap']
 have e1:(((q0%256+65536*(q1%256)+4294967296*(q2%256)+281474976710656*(q3%256):Nat):Int)*256%18446744073709551616)=((256*(q0%256+65536*(q1%256)+4294967296*(q2%256)+281474976710656*(q3%256)):Nat):Int):=by omega
 have e2:((q0 / 256+256*(q1%256))%256+65536*((q1 / 256+256*(q2%256))%256)+4294967296*((q2 / 256+256*(q3%256))%256)+281474976710656*(q3 / 256%256))=(q0 / 256)+65536*(q1 / 256)+4294967296*(q2 / 256)+281474976710656*(q3 / 256):=by omega
 rw [e1,e2,bits_or_u64_nat _ _ (by omega) (by omega),join8 _ _ _ _ _ _ _ _ (by omega) (by omega) (by omega) (by omega) (by omega) (by omega) (by omega)]
theorem step16_eq (q0 q1 q2 q3:Nat) (h0:q0<65536) (h1:q1<65536) (h2:q2<65536) (h3:q3<65536):
 step16 ((q0+65536*q1+4294967296*q2+281474976710656*q3:Nat):Int)=((q1+65536*q0+4294967296*(q3+65536*q2):Nat):Int):=by
 unfold step16
 have d:(((q0+65536*q1+4294967296*q2+281474976710656*q3:Nat):Int) / 65536)=(((q1+65536*q2)+4294967296*q3:Nat):Int):=by omega
 have d0:(q0+65536*q1+4294967296*q2+281474976710656*q3:Nat)=(q0+65536*q1)+4294967296*(q2+65536*q3):=by omega
 have m:=bits_and_u64_nat ((q0+65536*q1)+4294967296*(q2+65536*q3)) 281470681808895 (by omega) (by decide)
 have m2:=bits_and_u64_nat ((q1+65536*q2)+4294967296*q3) 281470681808895 (by omega) (by decide)
 rw [mask16 _ _ (by omega)] at m
 rw [mask16 _ _ (by omega)] at m2
 rw [d,d0]
 have c:(281470681808895:Int)=((281470681808895:Nat):Int):=rfl
 rw [c,m,m2,u64_wrap']
 have e1:((((q0+65536*q1)%65536+4294967296*((q2+65536*q3)%65536):Nat):Int)*65536%18446744073709551616)=((65536*(q0+4294967296*q2):Nat):Int):=by omega
 have e2:((q1+65536*q2)%65536+4294967296*(q3%65536))=q1+4294967296*q3:=by omega
 rw [e1,e2,bits_or_u64_nat _ _ (by omega) (by omega),join16 _ _ _ _ h1 h3 h0]
theorem step32_eq (r0 r1:Nat) (h0:r0<4294967296) (h1:r1<4294967296):step32 ((r0+4294967296*r1:Nat):Int)=((r1+4294967296*r0:Nat):Int):=by
 unfold step32
 have d:(((r0+4294967296*r1:Nat):Int) / 4294967296)=((r1:Nat):Int):=by omega
 have e1:(((r0+4294967296*r1:Nat):Int)*4294967296%18446744073709551616)=((4294967296*r0:Nat):Int):=by omega
 rw [d,u64_wrap',e1,bits_or_u64_nat _ _ (by omega) (by omega)]
 have:=or_apart 32 r0 r1 (by omega)
 rw [show (4294967296:Nat)=2 ^ 32 from rfl,this];congr 1;omega
def rev (x:Nat):Nat:=
 256*(256*(256*(256*(256*(256*(256*(x%256)+x / 256%256)+x / 65536%256)+x / 16777216%256)+x / 4294967296%256)+x / 1099511627776%256)+x / 281474976710656%256)+x / 72057594037927936%256
theorem rev_eq (x:Nat) (hx:x<2 ^ 64):step32 (step16 (step8 (x:Int)))=(rev x:Int):=by
 have e:x=x%65536+65536*(x / 65536%65536)+4294967296*(x / 4294967296%65536)+281474976710656*(x / 281474976710656):=by omega
 have h3:x / 281474976710656<65536:=by omega
 have k:=step8_eq (x%65536) (x / 65536%65536) (x / 4294967296%65536) (x / 281474976710656) (by omega) (by omega) (by omega) h3
 rw [←e] at k
 rw [k,step16_eq _ _ _ _ (by omega) (by omega) (by omega) (by omega),step32_eq _ _ (by omega) (by omega)]
 have t0:x%65536%256=x%256:=by omega
 have hh:∀y:Nat,y%65536 / 256=y / 256%256:=fun y=>Nat.mod_mul_right_div_self y 256 256
 have t1:x%65536 / 256=x / 256%256:=hh x
 have t2:x / 65536%65536%256=x / 65536%256:=by omega
 have t3:x / 65536%65536 / 256=x / 16777216%256:=(hh _).trans (by rw [Nat.div_div_eq_div_mul])
 have t4:x / 4294967296%65536%256=x / 4294967296%256:=by omega
 have t5:x / 4294967296%65536 / 256=x / 1099511627776%256:=(hh _).trans (by rw [Nat.div_div_eq_div_mul])
 have t7:x / 281474976710656 / 256=x / 72057594037927936%256:=by
  rw [Nat.div_div_eq_div_mul];exact (Nat.mod_eq_of_lt (by omega)).symm
 rw [t0,t1,t2,t3,t4,t5,t7]
 unfold rev
 generalize x%256=b0
 generalize x / 256%256=b1
 generalize x / 65536%256=b2
 generalize x / 16777216%256=b3
 generalize x / 4294967296%256=b4
 generalize x / 1099511627776%256=b5
 generalize x / 281474976710656%256=b6
 generalize x / 72057594037927936%256=b7
 omega
theorem rev_any (x:Nat) (w:World) (hx:x<2 ^ 64):
 Calls Tryz.prog 177 #[.int .u64 x] w fun e w' =>e= .returned (.int .u64 (rev x))∧w=w' :=by
 have HR:=Hm (rev_eq x hx)
 go_enter Tryz.func177,Tryz.ntmps177
 go_wp2
 go_ret
 exact ⟨ret_int HR.out,rfl⟩
theorem wordL_len (x:Int):(wordL x).length=8:=by simp [wordL]
theorem versioned_yes (ver:Int) (w:World) (h1:1≤ver) (h2:ver≤2):Calls Tryz.prog 149 #[.int .u8 ver] w fun e w' =>e= .returned (.bool true)∧w=w' :=by
 go_enter Tryz.func149,Tryz.ntmps149
 go_wp2
 go_ret
 exact ⟨ret_bool (by first|(simp;done)|(simp;omega)),rfl⟩
theorem versioned_no (ver:Int) (w:World) (h1:ver<1∨2<ver):Calls Tryz.prog 149 #[.int .u8 ver] w fun e w' =>e= .returned (.bool false)∧w=w' :=by
 go_enter Tryz.func149,Tryz.ntmps149
 go_wp2
 all_goals
  go_ret
  exact ⟨ret_bool (by first|(simp;done)|(simp;omega)),rfl⟩
end Go.Proofs.YtodbhliidbclcaaGreat
