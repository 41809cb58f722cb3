/-
Small general laws: stores of floats and complex numbers; worlds that only grow.
-/
import Derived.Test.YtgmphpccpfaapaaGreatDoorRows
import Derived.WalkKit
import Derived.WalkSpells
import Derived.WalkLawsBesides
import Derived.Laws.EntriesVeiled
import Derived.Laws.ComplexArith
import Derived.Deep.QuietTactic
import Derived.BigQuiet
import Derived.Deep.RegionHeld3
import Derived.Deep.RegionWith
import Derived.StillTailTactics
import Derived.Deep.LoopGhost
import Derived.Deep.DeepCutAuto
import Derived.Laws.BytesArg
import Derived.Lib.AppendStr
import Derived.ScopeJumps
import Derived.WalkMore
import Derived.Laws.AppendOwnNone
import Derived.OwnWalkIn
set_option maxRecDepth 100000
set_option maxHeartbeats 16000000
namespace Go.Proofs.YtgmphpccpfaapaaGreatDoor
open Go.RowKit
section
variable {P : Program} (w : World) (a : Addr) (m : Mode)
@[go_sem] theorem run_store_complex (k:FloatKind) (x y:Nat):(store a (.complex k x y) m).run P w=stored P w a (.complex k x y) m:=run_store P w a _ m rfl
@[go_sem] theorem run_store_float (k:FloatKind) (x:Nat):(store a (.float k x) m).run P w=stored P w a (.float k x) m:=run_store P w a _ m rfl
end
theorem Hm {p:Prop} (h:p):Hid p:=h
def Ext (w w' :World):Prop:=Below w.heap.size w w'
theorem Ext.refl (w:World):Ext w w:=Below.refl _ _
theorem Ext.alloc {w w1:World} (h:Ext w w1) (o:Obj):Ext w (w1.alloc o):=Below.alloc h h.size o
theorem Ext.drew {w w1:World} (h:Ext w w1):Ext w w1.drew:=Below.drew h
theorem Ext.drewN {w w1:World} (h:Ext w w1) (n:Nat):Ext w (w1.drewN n):=⟨h.os,h.tape,h.output,h.size,h.block⟩
theorem Ext.trans {w w1 w2:World} (h:Ext w w1) (k:Ext w1 w2):Ext w w2:=Below.trans h (Below.mono k h.size)
theorem Ext.size {w w1:World} (h:Ext w w1):w.heap.size≤w1.heap.size:=Below.size h
theorem Ext.cells {W w1:World} (hb:Ext W w1):(∀b o,b<W.heap.size→w1.cell? ⟨b,o,none⟩=W.cell? ⟨b,o,none⟩)∧(∀b o,b<W.heap.size→w1.frozen? ⟨b,o,none⟩=W.frozen? ⟨b,o,none⟩):=
 ⟨fun b o h=>Below.cell hb (p:=⟨b,o,none⟩) h,fun b o h=>Below.frozen hb (p:=⟨b,o,none⟩) h⟩
theorem held_of {W w1:World} (h:Ext W w1):Ext W w1∧(∀b o,b<W.heap.size→w1.cell? ⟨b,o,none⟩=W.cell? ⟨b,o,none⟩)∧(∀b o,b<W.heap.size→w1.frozen? ⟨b,o,none⟩=W.frozen? ⟨b,o,none⟩):=⟨h,h.cells⟩
theorem held_left {W w1:World} {q:Prop} (h:Ext W w1∧q):Ext W w1:=h.1
theorem Ext.setCell {w w1:World} (h:Ext w w1) {p:Addr} (hp:w.heap.size≤p.block) (u:Value):Ext w (w1.setCell p u):=Below.setCell h hp u
theorem eX {w w' :World} (h:Ext w w' :=by repeat (with_reducible (first|exact Ext.refl _|assumption|exact held_left (by assumption)|apply Ext.drewN|apply Ext.drew|apply Ext.alloc|(refine Ext.setCell ?_ (by first|(simp;done)|(simp;omega)|omega) _)|(refine Ext.trans ?_ (by assumption))|(refine Ext.trans ?_ (held_left (by assumption)))))):Ext w w' :=h
theorem ret_int {k:IntKind} {a b:Int} (h:a=b):Ending.returned (.int k a)= .returned (.int k b):=by rw [h]
theorem ret_bool {a b:Bool} (h:a=b):Ending.returned (.bool a)= .returned (.bool b):=by rw [h]
theorem isEmpty_size (s:ByteArray):s.toList.isEmpty=decide (s.size=0):=by
 have h:s.size=s.data.toList.length:=by simp only [Array.length_toList];rfl
 rw [ByteArray.toList_eq,h]
 cases s.data.toList<;>simp
def Blk (w:World) (b:Nat) (cs:Array Value) (t:TypeId):Prop:=w.heap[b]? =some (.cells cs t (0,0))
theorem Blk.lt {w:World} {b:Nat} {cs:Array Value} {t:TypeId} (h:Blk w b cs t):b<w.heap.size:=by
 rcases Nat.lt_or_ge b w.heap.size with h1|h1
 ·exact h1
 ·unfold Blk at h;rw [Array.getElem?_eq_none h1] at h;cases h
theorem Blk.cell {w:World} {b:Nat} {cs:Array Value} {t:TypeId} (h:Blk w b cs t):∀o,w.cell? ⟨b,o,none⟩=cs[o]? :=by
 intro o;unfold World.cell?;unfold Blk at h;simp only [h];rfl
theorem Blk.frozen {w:World} {b:Nat} {cs:Array Value} {t:TypeId} (h:Blk w b cs t):∀o,w.frozen? ⟨b,o,none⟩=false:=by
 intro o;unfold World.frozen?;unfold Blk at h;simp only [h];simp
theorem Blk.ext {w w1:World} {b:Nat} {cs:Array Value} {t:TypeId} (h:Blk w b cs t) (he:Ext w w1):Blk w1 b cs t:=(he.block b h.lt).trans h
theorem Blk.alloc {w:World} {b:Nat} {cs:Array Value} {t:TypeId} (h:Blk w b cs t) (o:Obj):Blk (w.alloc o) b cs t:=h.ext ((Ext.refl w).alloc o)
theorem Blk.drew {w:World} {b:Nat} {cs:Array Value} {t:TypeId} (h:Blk w b cs t):Blk w.drew b cs t:=h
theorem Blk.drewN {w:World} {b:Nat} {cs:Array Value} {t:TypeId} (h:Blk w b cs t) (n:Nat):Blk (w.drewN n) b cs t:=h
theorem Blk.new (w:World) (cs:Array Value) (t:TypeId):Blk (w.alloc (.cells cs t)) w.heap.size cs t:=by
 show (w.heap.push _)[w.heap.size]? =_
 simp
theorem Blk.new' {w:World} {b:Nat} (cs:Array Value) (t:TypeId) (h:b=w.heap.size):Blk (w.alloc (.cells cs t)) b cs t:=h ▸ Blk.new w cs t
theorem Blk.set {w:World} {b:Nat} {cs:Array Value} {t:TypeId} (h:Blk w b cs t) (i:Nat) (v:Value):Blk (w.setCell ⟨b,i,none⟩ v) b (cs.setIfInBounds i v) t:=by
 unfold Blk at*
 simp only [World.setCell,Array.getElem?_modify,h,if_true,Option.map_some]
 rfl
theorem Blk.other {w:World} {b:Nat} {cs:Array Value} {t:TypeId} (h:Blk w b cs t) (a:Addr) (v:Value) (hne:b≠a.block):Blk (w.setCell a v) b cs t:=
 (Below.heap_setCell w a v b hne).trans h
def Sl (w:World) (v:Value) (k:Nat) (xss:List (List Value)):Prop:=
 ∃a cap,v= .slice a xss.length cap∧(xss= []∨∃b o,a=some ⟨b,o,none⟩∧b<w.heap.size∧∀i,i<xss.length→∀j,j<k→w.cell? ⟨b,o+i*k+j,none⟩=(xss.getD i [])[j]?)
theorem Sl.ext {w w1:World} {v:Value} {k:Nat} {xss:List (List Value)} (h:Sl w v k xss) (he:Ext w w1):Sl w1 v k xss:=by
 obtain ⟨a,cap,rfl,h⟩:=h
 refine ⟨a,cap,rfl, ?_⟩
 rcases h with h|⟨b,o,rfl,hb,hc⟩
 ·exact .inl h
 ·exact .inr ⟨b,o,rfl,Nat.lt_of_lt_of_le hb he.size,fun i hi j hj=>(he.cells.1 b _ hb).trans (hc i hi j hj)⟩
theorem call_bits (x:Nat) (w:World):(callFunc 156 #[.float .f64 x]).run Tryz.prog w= .ok (.value (.int .u64 x)) w:=
 run_callFunc_extern (e:=Extern.MathFloatBits.float64bits) Tryz.func156 (by kernel_rfl) (by kernel_rfl) (by kernel_rfl) (by kernel_rfl) _ w
theorem call_frombits (x:Int) (w:World):(callFunc 157 #[.int .u64 x]).run Tryz.prog w= .ok (.value (.float .f64 x.toNat)) w:=
 run_callFunc_extern (e:=Extern.MathFloatBits.float64frombits) Tryz.func157 (by kernel_rfl) (by kernel_rfl) (by kernel_rfl) (by kernel_rfl) _ w
theorem vof_any (x y:Int) (w:World):
 Calls Tryz.prog 135 #[.int .u64 x, .int .u64 y] w fun e w' =>e= .returned (.complex .f64 x.toNat y.toNat)∧w=w' :=by
 have h2:=call_frombits
 go_enter Tryz.func135,Tryz.ntmps135
 go_wp2
 go_ret
 exact ⟨rfl,rfl⟩
theorem vbits_any (x y:Nat) (w:World):
 Calls Tryz.prog 182 #[.complex .f64 x y] w fun e w' =>e= .returned (.tuple #[.int .u64 x, .int .u64 y])∧w=w' :=by
 have h2:=call_bits
 go_enter Tryz.func182,Tryz.ntmps182
 go_wp2
 go_ret2
 exact ⟨rfl,rfl⟩
theorem vown_any (ty n x y:Int) (s:ByteArray) (w:World):
 Calls Tryz.prog 104 #[.agg #[.int .u8 ty, .int .i64 n, .int .u64 x, .int .u64 y, .string s]] w fun e w' =>
  e= .returned (.agg #[.int .u8 ty, .int .i64 n, .complex .f64 x.toNat y.toNat, .string s])∧Ext w w' :=by
 go_enter Tryz.func104,Tryz.ntmps104
 go_wp2
 go_region_held3 (fun w' =>Ext (w.alloc (.cells #[.int .u8 ty, .int .i64 n, .int .u64 x, .int .u64 y, .string s] 99)) w'∧(∀b o,b<(w.alloc (.cells #[.int .u8 ty, .int .i64 n, .int .u64 x, .int .u64 y, .string s] 99)).heap.size→w'.cell? ⟨b,o,none⟩=(w.alloc (.cells #[.int .u8 ty, .int .i64 n, .int .u64 x, .int .u64 y, .string s] 99)).cell? ⟨b,o,none⟩)∧(∀b o,b<(w.alloc (.cells #[.int .u8 ty, .int .i64 n, .int .u64 x, .int .u64 y, .string s] 99)).heap.size→w'.frozen? ⟨b,o,none⟩=(w.alloc (.cells #[.int .u8 ty, .int .i64 n, .int .u64 x, .int .u64 y, .string s] 99)).frozen? ⟨b,o,none⟩)) ((exact held_of (by exact eX)))
  (first
   |(go_at_call 135;refine (vof_any x y _).mono ?_;rintro e w' ⟨rfl,rfl⟩))
 go_wp2
 simp [bodyPost,results,Tryz.results104,go_sem]
 exact eX
theorem cown_any (k ty n x y:Int) (s:ByteArray) (w:World):
 Calls Tryz.prog 76 #[.agg #[.int .u8 k, .int .u8 ty, .int .i64 n, .int .u64 x, .int .u64 y, .string s]] w fun e w' =>
  e= .returned (.agg #[.int .u8 k, .int .u8 ty, .int .i64 n, .complex .f64 x.toNat y.toNat, .string s])∧Ext w w' :=by
 go_enter Tryz.func76,Tryz.ntmps76
 go_wp2
 go_region_held3 (fun w' =>Ext (w.alloc (.cells #[.int .u8 k, .int .u8 ty, .int .i64 n, .int .u64 x, .int .u64 y, .string s] 101)) w'∧(∀b o,b<(w.alloc (.cells #[.int .u8 k, .int .u8 ty, .int .i64 n, .int .u64 x, .int .u64 y, .string s] 101)).heap.size→w'.cell? ⟨b,o,none⟩=(w.alloc (.cells #[.int .u8 k, .int .u8 ty, .int .i64 n, .int .u64 x, .int .u64 y, .string s] 101)).cell? ⟨b,o,none⟩)∧(∀b o,b<(w.alloc (.cells #[.int .u8 k, .int .u8 ty, .int .i64 n, .int .u64 x, .int .u64 y, .string s] 101)).heap.size→w'.frozen? ⟨b,o,none⟩=(w.alloc (.cells #[.int .u8 k, .int .u8 ty, .int .i64 n, .int .u64 x, .int .u64 y, .string s] 101)).frozen? ⟨b,o,none⟩)) ((exact held_of (by exact eX)))
  (first
   |(go_at_call 104;refine (vown_any ty n x y s _).mono ?_;rintro e w' ⟨rfl,hb⟩;obtain ⟨hc,hf⟩:=hb.cells))
 go_wp2
 simp [bodyPost,results,Tryz.results76,go_sem, *]
 exact eX
theorem cells_new (w:World) (cs:Array Value) (t:TypeId):∀j u,cs.toList[j]? =some u→(w.alloc (.cells cs t)).cell? ((⟨w.heap.size,0,none⟩:Addr).add j)=some u:=by
 intro j u h
 have e:(⟨w.heap.size,0,none⟩:Addr).add j=⟨w.heap.size,j,none⟩:=by
  unfold Addr.add;split
  ·rename_i h0;subst h0;rfl
  ·simp
 rw [e,(Blk.new w cs t).cell j]
 simpa using h
theorem Ext.grown {w w1 w2:World} (h:Ext w w1) {e:TypeId} {size n:Nat} {v:Value} {xs:List Value} (ho:w1.ownsRow w.heap.size e size v n xs) (hg:w1.grownBy w2 v.ownBlock):Ext w w2:=
 Below.grown h hg h.size fun k hk=>(ho.lt k hk).1
theorem owns_ext {w w1:World} {base:Nat} {e:TypeId} {size n:Nat} {v:Value} {xs:List Value} (h:w.ownsRow base e size v n xs) (he:Ext w w1):w1.ownsRow base e size v n xs:=by
 obtain ⟨h1,h2⟩:=h
 refine ⟨h1, ?_⟩
 rcases h2 with h2|⟨g,cap,cur,hv,hg,hh,hr⟩
 ·exact .inl h2
 ·exact .inr ⟨g,cap,cur,hv,hg,Blk.ext (b:=g) hh he,hr⟩
theorem flat_get {α:Type} (k:Nat):∀(xss:List (List α)),(∀xs∈xss,xs.length=k)→∀i,i<xss.length→∀j,j<k→xss.flatten[i*k+j]? =(xss.getD i [])[j]? :=by
 intro xss
 induction xss with
 |nil=>intro _ i hi;simp at hi
 |cons x xss ih=>
  intro h i hi j hj
  have hx:x.length=k:=h x (by simp)
  rw [List.flatten_cons]
  cases i with
  |zero=>rw [List.getElem?_append_left (by omega)];simp
  |succ i=>
   have e:(i+1)*k+j=x.length+(i*k+j):=by rw [hx,Nat.succ_mul];omega
   rw [e,List.getElem?_append_right (by omega),Nat.add_sub_cancel_left]
   have:=ih (fun xs hxs=>h xs (by simp [hxs])) i (by simpa using hi) j hj
   rw [this];simp
theorem flat_length {α:Type} (k:Nat) (xss:List (List α)) (h:∀xs∈xss,xs.length=k):xss.flatten.length=xss.length*k:=by
 induction xss with
 |nil=>simp
 |cons x xss ih=>
  have:=ih (fun xs hxs=>h xs (by simp [hxs]))
  have hx:x.length=k:=h x (by simp)
  simp only [List.flatten_cons,List.length_append,List.length_cons,this,hx,Nat.succ_mul];omega
theorem Sl.of_owns {w:World} {base:Nat} {e:TypeId} {k:Nat} {v:Value} {xss:List (List Value)} (ho:w.ownsRow base e k v xss.length xss.flatten) (hk:∀xs∈xss,xs.length=k):Sl w v k xss:=by
 obtain ⟨h1,h2⟩:=ho
 rcases h2 with ⟨rfl,h0⟩|⟨g,cap,cur,rfl,hg,hh,hn,hcap,hsz,htake⟩
 ·exact ⟨none,0,by rw [h0], .inl (List.length_eq_zero_iff.1 h0)⟩
 ·refine ⟨_,cap,rfl, .inr ⟨g,0,rfl,Blk.lt (b:=g) hh, ?_⟩⟩
  intro i hi j hj
  have hb:Blk w g cur e:=hh
  rw [hb.cell,←flat_get k xss hk i hi j hj,←htake,List.getElem?_take]
  have hlt:i*k+j<xss.length*k:=by
   have:(i+1)*k≤xss.length*k:=Nat.mul_le_mul_right k (by omega)
   rw [Nat.succ_mul] at this;omega
  rw [if_pos hlt]
  simp
theorem Sl.new (w:World) (cs:Array Value) (t:TypeId) (k n c:Nat) (xss:List (List Value)) (h1:cs.toList=xss.flatten) (h2:∀xs∈xss,xs.length=k) (h3:n=xss.length):
 Sl (w.alloc (.cells cs t)) (.slice (some ⟨w.heap.size,0,none⟩) n c) k xss:=by
 subst h3
 refine ⟨_,c,rfl, .inr ⟨w.heap.size,0,rfl,(Blk.new w cs t).lt, ?_⟩⟩
 intro i hi j hj
 rw [(Blk.new w cs t).cell,←flat_get k xss h2 i hi j hj,←h1]
 simp
theorem Sl.shape {w:World} {v:Value} {k n:Nat} {xss:List (List Value)} (h:Sl w v k xss) (hn:xss.length=n):
 ∃a cap,v= .slice a n cap∧(n=0∨∃b o,a=some ⟨b,o,none⟩∧b<w.heap.size∧∀i,i<n→∀j,j<k→w.cell? ⟨b,o+i*k+j,none⟩=(xss.getD i [])[j]?):=by
 subst hn
 obtain ⟨a,cap,hv,h⟩:=h
 exact ⟨a,cap,hv,h.imp (fun e=>by rw [e];rfl) id⟩
theorem Sl.one {w:World} {v:Value} {k:Nat} {xs:List Value} (h:Sl w v k [xs]):∃b q cap,v= .slice (some ⟨b,q,none⟩) 1 cap∧b<w.heap.size∧∀j,j<k→w.cell? ⟨b,q+j,none⟩=xs[j]? :=by
 obtain ⟨a,cap,rfl,h⟩:=h
 rcases h with h|⟨b,q,rfl,hb,hc⟩
 ·cases h
 ·refine ⟨b,q,cap,rfl,hb,fun j hj=> ?_⟩
  have:=hc 0 (by simp) j hj
  simpa using this
theorem run_equalIn_slice_nil' {P:Program} (w:World) (d:Nat) (t e:TypeId) (a:Option Addr) (l c:Nat) (h:P.underlying t=some (.slice e)):(Op.equalIn (d+1) t (.slice a l c) (.slice none 0 0)).run P w= .ok a.isNone w:=by
 cases a<;>simp [Op.equalIn,run_underlying h]
@[go_sem] theorem run_eql_slice_nil' {P:Program} (w:World) (t e:TypeId) (a:Option Addr) (l c:Nat) (h:P.underlying t=some (.slice e)):(binOp .eql t (.slice a l c) (.slice none 0 0)).run P w= .ok (.bool a.isNone) w:=by
 have e:(Op.equal t (.slice a l c) (.slice none 0 0)).run P w= .ok a.isNone w:=by
  exact run_equalIn_slice_nil' w 9999 t e a l c h
 simp [binOp,e]
theorem Tryz.infoU8:(Tryz.prog.info? 5).map (fun i=>(i.zero,i.size,i.bytes))=some (some (.int .u8 0),1,1):=by kernel_rfl
def bs (l:List Int):List Value:=l.map (Value.int .u8)
def bcell (x:Int):List Value:= [.int .u8 x]
theorem bs_len (l:List Int):(bs l).length=l.length:=by simp [bs]
theorem bs_flat (l:List Int):(l.map bcell).flatten=bs l:=by
 induction l with
 |nil=>rfl
 |cons x l ih=>simp [bs,bcell] at*;exact ih
theorem bs_append (l m:List Int):bs (l++m)=bs l++bs m:=by simp [bs]
theorem bs_str (s:ByteArray):Go.Lib.strCells s=bs (s.data.toList.map fun b=>(b.toNat:Int)):=by simp [bs,Go.Lib.strCells,Function.comp_def]
def OB (w:World) (base:Nat) (v:Value) (l:List Int):Prop:=w.ownsRow base 5 1 v l.length (bs l)
theorem OB.ext {w w1:World} {base:Nat} {v:Value} {l:List Int} (h:OB w base v l) (he:Ext w w1):OB w1 base v l:=owns_ext h he
theorem OB.alloc {w:World} {base:Nat} {v:Value} {l:List Int} (h:OB w base v l) (o:Obj):OB (w.alloc o) base v l:=h.ext ((Ext.refl w).alloc o)
theorem OB.drew {w:World} {base:Nat} {v:Value} {l:List Int} (h:OB w base v l):OB w.drew base v l:=h.ext ((Ext.refl w).drew)
theorem OB.base {w:World} {base b:Nat} {v:Value} {l:List Int} (h:OB w b v l) (hb:base≤b):OB w base v l:=by
 obtain ⟨h1,h2⟩:=h
 refine ⟨h1, ?_⟩
 rcases h2 with h2|⟨g,cap,cur,hv,hg,hr⟩
 ·exact .inl h2
 ·exact .inr ⟨g,cap,cur,hv,Nat.le_trans hb hg,hr⟩
theorem OB.nil (w:World) (base:Nat):OB w base (.slice none 0 0) []:=World.ownsRow_nil _ _ _ _
theorem OB.sl {w:World} {base:Nat} {v:Value} {l:List Int} (h:OB w base v l):Sl w v 1 (l.map bcell):=
 Sl.of_owns (by rw [List.length_map,bs_flat];exact h) (by intro xs hxs;simp at hxs;obtain ⟨x,_,rfl⟩:=hxs;rfl)
theorem OB.shape {w:World} {base:Nat} {v:Value} {l:List Int} (h:OB w base v l):∃a cap,v= .slice a l.length cap:=by
 rcases h.2 with ⟨rfl,h0⟩|⟨g,cap,cur,hv,_⟩
 ·exact ⟨none,0,by rw [h0]⟩
 ·exact ⟨_,cap,hv⟩
theorem Sl.bytes {w:World} {b o len cap:Nat} {l:List Int} (h:Sl w (.slice (some ⟨b,o,none⟩) len cap) 1 (l.map bcell)) (hl:0<len):b<w.heap.size∧len=l.length∧∀i,i<len→w.cell? ⟨b,o+i,none⟩=some (.int .u8 (l.getD i 0)):=by
 obtain ⟨a,cap',hv,hs⟩:=h
 simp only [Value.slice.injEq,List.length_map] at hv
 obtain ⟨rfl,rfl,rfl⟩:=hv
 rcases hs with h0|⟨b',o',ha,hb,hc⟩
 ·simp at h0;subst h0;simp at hl
 ·simp only [Option.some.injEq,Addr.mk.injEq] at ha
  obtain ⟨rfl,rfl, -⟩:=ha
  refine ⟨hb,rfl,fun i hi=> ?_⟩
  have:=hc i (by simpa using hi) 0 (by omega)
  rw [Nat.mul_one,Nat.add_zero] at this
  rw [this]
  simp [bcell,List.getD,List.getElem?_map,List.getElem?_eq_getElem hi]
theorem bs_one (l:List Int):∀u∈bs l,u.oneCell' =true:=by
 intro u hu;simp [bs] at hu;obtain ⟨x,_,rfl⟩:=hu;rfl
theorem OB.push {w:World} {base:Nat} {v:Value} {l m:List Int} {n:Nat} (h:w.ownsRow base 5 1 v n (bs l++bs m)) (hn:n=l.length+m.length):OB w base v (l++m):=by
 unfold OB;rw [bs_append,List.length_append,←hn];exact h
theorem OB.grown {W w1 w2:World} (h:Ext W w1) {v:Value} {l:List Int} (ho:OB w1 W.heap.size v l) (hg:w1.grownBy w2 v.ownBlock):Ext W w2:=Ext.grown h ho hg
theorem cells_one (w:World) (x:Int):∀j u,(bs [x])[j]? =some u→(w.alloc (.cells #[.int .u8 x] 5)).cell? ((⟨w.heap.size,0,none⟩:Addr).add j)=some u:=cells_new w #[.int .u8 x] _
def byteAt (x:Int) (k:Nat):Int:=x / 2 ^ (8*k)%256
def wordL (x:Int):List Int:=(List.range 8).map (byteAt x)
def sevens (x:Nat):List Int:=if h:x<128 then [(x:Int)] else ((x%128+128:Nat):Int)::sevens (x / 128)
termination_by x
decreasing_by omega
def plainB (s:ByteArray):Bool:=s.data.toList.all fun c=>32≤c&&c≤126
theorem plain_get {s:ByteArray} (h:plainB s=true) (k:Nat) (hk:k<s.size):32≤(s[k].toNat:Int)∧(s[k].toNat:Int)≤126:=by
 unfold plainB at h
 rw [List.all_eq_true] at h
 have:=h s[k] (by rw [Array.mem_toList_iff];exact Array.getElem_mem hk)
 simp [UInt8.le_iff_toNat_le] at this
 omega
theorem plain_of {s:ByteArray} (h:∀k (hk:k<s.size),32≤(s[k].toNat:Int)∧(s[k].toNat:Int)≤126):plainB s=true:=by
 unfold plainB
 rw [List.all_eq_true]
 intro c hc
 rw [Array.mem_toList_iff] at hc
 obtain ⟨k,hk,rfl⟩:=Array.mem_iff_getElem.1 hc
 have:=h k hk
 simp [UInt8.le_iff_toNat_le]
 have e:s[k]=s.data[k]:=rfl
 rw [e] at this
 omega
theorem rplain_any (s:ByteArray) (w:World) (hs:s.size≤9223372036854775807):
 Calls Tryz.prog 177 #[.string s] w fun e w' =>e= .returned (.bool (plainB s))∧w=w' :=by
 go_enter Tryz.func177,Tryz.ntmps177
 go_wp2
 go_loop [3] (fun i=>∃k:Nat,k≤s.size∧i= .int .i64 k∧Hid (∀j (hj:j<s.size),j<k→32≤(s[j].toNat:Int)∧(s[j].toNat:Int)≤126)) (fun i=>s.size - (intOf i).toNat)
 case atStart=>exact ⟨0,Nat.zero_le _,rfl,fun j _ h=>by omega⟩
 case round=>
  obtain ⟨k,hk,rfl,hrel⟩:=hrel
  by_cases hlt:k<s.size
  ·by_cases hg:32≤(s[k].toNat:Int)∧(s[k].toNat:Int)≤126
   ·obtain ⟨h1,h2⟩:=hg
    go_wp2
    go_round
    case rel=>exact ⟨k+1,by omega,by go_num,fun j hj hjk=>by
     by_cases e:j=k
     ·subst e;exact ⟨h1,h2⟩
     ·exact hrel.out j hj (by omega)⟩
    case measure=>simp [intOf];omega
   ·have hf:Hid (plainB s=false):=by
     show plainB s=false
     rw [Bool.eq_false_iff];exact fun h=>hg (plain_get h k hlt)
    by_cases hg1:(s[k].toNat:Int)<32
    ·go_wp2
     go_ret
     exact ⟨ret_bool hf.out.symm,rfl⟩
    ·have hg2:126<(s[k].toNat:Int):=by omega
     go_wp2
     go_ret
     exact ⟨ret_bool hf.out.symm,rfl⟩
  ·have hkk:k=s.size:=by omega
   have hf:Hid (plainB s=true):=plain_of fun j hj=>hrel.out j hj (by omega)
   subst hkk
   go_wp2
   go_ret
   exact ⟨ret_bool hf.out.symm,rfl⟩
def rightV (ty n x y:Int) (s:ByteArray):Int:=
 if ty<1∨6<ty then 11
 else if (2<ty∧n≠0)∨(ty≠3∧ty≠4∧x≠0)∨(ty≠4∧y≠0)∨(ty<5∧s.size≠0) then 3
 else if ty=1∧n≠0∧n≠1 then 4
 else if 2048<s.size then 2
 else if ty=5∧plainB s=false then 3
 else 0
theorem rright_any (ty n x y:Int) (s:ByteArray) (w:World) (hs:s.size≤9223372036854775807):
 Calls Tryz.prog 163 #[.agg #[.int .u8 ty, .int .i64 n, .int .u64 x, .int .u64 y, .string s]] w fun e w' =>
  e= .returned (.int .i64 (rightV ty n x y s))∧Ext w w' :=by
 have HP:=Hm (fun w=>rplain_any s w hs)
 go_enter Tryz.func163,Tryz.ntmps163
 go_wp2_with (go_at_call 177;refine (HP.out _).mono ?_;rintro e w' ⟨rfl,rfl⟩)
 all_goals
  go_ret
  refine ⟨ret_int ?_,by exact eX⟩
  clear HP
  try simp only [isEmpty_size] at*
  unfold rightV
  (repeat' split)<;>(first|rfl|(exfalso;omega)|(simp_all;done)|(simp_all;omega)|(exfalso;simp_all;omega))
theorem vplain_any (s:ByteArray) (w:World) (hs:s.size≤9223372036854775807):
 Calls Tryz.prog 171 #[.string s] w fun e w' =>e= .returned (.bool (plainB s))∧w=w' :=by
 go_enter Tryz.func171,Tryz.ntmps171
 go_wp2
 go_loop [6] (fun i=>∃k:Nat,k≤s.size∧i= .int .i64 k∧Hid (∀j (hj:j<s.size),j<k→32≤(s[j].toNat:Int)∧(s[j].toNat:Int)≤126)) (fun i=>s.size - (intOf i).toNat)
 case atStart=>exact ⟨0,Nat.zero_le _,rfl,fun j _ h=>by omega⟩
 case round=>
  obtain ⟨k,hk,rfl,hrel⟩:=hrel
  by_cases hlt:k<s.size
  ·by_cases hg:32≤(s[k].toNat:Int)∧(s[k].toNat:Int)≤126
   ·obtain ⟨h1,h2⟩:=hg
    go_wp2
    go_round
    case rel=>exact ⟨k+1,by omega,by go_num,fun j hj hjk=>by
     by_cases e:j=k
     ·subst e;exact ⟨h1,h2⟩
     ·exact hrel.out j hj (by omega)⟩
    case measure=>simp [intOf];omega
   ·have hf:Hid (plainB s=false):=by
     show plainB s=false
     rw [Bool.eq_false_iff];exact fun h=>hg (plain_get h k hlt)
    by_cases hg1:(s[k].toNat:Int)<32
    ·go_wp2
     go_ret
     exact ⟨ret_bool hf.out.symm,rfl⟩
    ·have hg2:126<(s[k].toNat:Int):=by omega
     go_wp2
     go_ret
     exact ⟨ret_bool hf.out.symm,rfl⟩
  ·have hkk:k=s.size:=by omega
   have hf:Hid (plainB s=true):=plain_of fun j hj=>hrel.out j hj (by omega)
   subst hkk
   go_wp2
   go_ret
   exact ⟨ret_bool hf.out.symm,rfl⟩
def sameB (ty n:Int) (x y:Nat) (s:ByteArray) (ty' n' :Int) (x' y' :Nat) (s' :ByteArray):Bool:=decide (ty=ty'∧n=n'∧x=x'∧y=y'∧s=s')
theorem str_beq (s t:ByteArray):(s.toList==t.toList)=decide (s=t):=by
 rw [ByteArray.toList_eq,ByteArray.toList_eq,Bool.eq_iff_iff,beq_iff_eq,decide_eq_true_eq]
 constructor
 ·intro h;cases s;cases t;simp only [ByteArray.mk.injEq];exact Array.toList_inj.1 h
 ·intro h;rw [h]
theorem vsame_any (ty n:Int) (x y:Nat) (s:ByteArray) (ty' n' :Int) (x' y' :Nat) (s' :ByteArray) (w:World):
 Calls Tryz.prog 169 #[.agg #[.int .u8 ty, .int .i64 n, .complex .f64 x y, .string s], .agg #[.int .u8 ty', .int .i64 n', .complex .f64 x' y', .string s']] w fun e w' =>
  e= .returned (.bool (sameB ty n x y s ty' n' x' y' s'))∧Ext w w' :=by
 go_enter Tryz.func169,Tryz.ntmps169
 go_wp2_with (go_at_call 182;refine (vbits_any _ _ _).mono ?_;rintro e w1 ⟨rfl,rfl⟩)
 all_goals
  go_ret
  refine ⟨ret_bool ?_,by exact eX⟩
  unfold sameB
  first
   |(rw [str_beq];exact decide_eq_decide.2 ⟨fun h=>⟨by omega,by omega,by omega,by omega,h⟩,fun h=>h.2.2.2.2⟩)
   |(symm;rw [decide_eq_false_iff_not];intro h;omega)
def ownN (ty n:Int):Int:=if ty=1∨ty=2 then n else 0
def ownX (ty:Int) (x:Nat):Nat:=if ty=3∨ty=4 then x else 0
def ownY (ty:Int) (y:Nat):Nat:=if ty=4 then y else 0
def ownS (ty:Int) (s:ByteArray):ByteArray:=if ty=5∨ty=6 then s else ByteArray.empty
theorem vvown_any (ty n:Int) (x y:Nat) (s:ByteArray) (w:World):
 Calls Tryz.prog 170 #[.agg #[.int .u8 ty, .int .i64 n, .complex .f64 x y, .string s]] w fun e w' =>
  e= .returned (.agg #[.int .u8 ty, .int .i64 (ownN ty n), .complex .f64 (ownX ty x) (ownY ty y), .string (ownS ty s)])∧Ext w w' :=by
 go_enter Tryz.func170,Tryz.ntmps170
 go_wp2_with (first
  |(go_at_call 182;refine (vbits_any _ _ _).mono ?_;rintro e w1 ⟨rfl,rfl⟩)
  |(go_at_call 135;refine (vof_any _ _ _).mono ?_;rintro e w2 ⟨rfl,rfl⟩;simp only [Int.toNat_natCast,Int.toNat_zero]))
 all_goals
  simp [bodyPost,results,Tryz.results170,go_sem, *]
  refine ⟨?_,by exact eX⟩
  unfold ownN ownX ownY ownS
  first
   |(simp_all;done)
   |(simp_all;rfl)
theorem size_zero (s:ByteArray):s=ByteArray.empty↔s.size=0:=by
 constructor
 ·rintro rfl;rfl
 ·intro h
  cases s with
  |mk d=>
   have h2:d= #[]:=Array.eq_empty_of_size_eq_zero h
   subst h2;rfl
theorem same_own (ty n:Int) (x y:Nat) (s:ByteArray) (h:1≤ty∧ty≤6):sameB ty n x y s ty (ownN ty n) (ownX ty x) (ownY ty y) (ownS ty s)=true↔
 ¬ ((2<ty∧n≠0)∨(ty≠3∧ty≠4∧(x:Int)≠0)∨(ty≠4∧(y:Int)≠0)∨(ty<5∧s.size≠0)):=by
 have ht:ty=1∨ty=2∨ty=3∨ty=4∨ty=5∨ty=6:=by omega
 unfold sameB
 rw [decide_eq_true_eq]
 rcases ht with rfl|rfl|rfl|rfl|rfl|rfl<;>simp [ownN,ownX,ownY,ownS]<;>grind
theorem vright_any (ty n:Int) (x y:Nat) (s:ByteArray) (w:World) (hs:s.size≤9223372036854775807):
 Calls Tryz.prog 153 #[.agg #[.int .u8 ty, .int .i64 n, .complex .f64 x y, .string s]] w fun e w' =>
  e= .returned (.int .i64 (rightV ty n x y s))∧Ext w w' :=by
 have HP:=Hm (fun w=>vplain_any s w hs)
 have HO:=Hm (fun w=>vvown_any ty n x y s w)
 obtain ⟨S,hS⟩:∃S,S=sameB ty n x y s ty (ownN ty n) (ownX ty x) (ownY ty y) (ownS ty s):=⟨_,rfl⟩
 have HSa:=Hm (fun w=>vsame_any ty n x y s ty (ownN ty n) (ownX ty x) (ownY ty y) (ownS ty s) w)
 rw [←hS] at HSa
 have HS2:Hid (1≤ty∧ty≤6→(S=true↔¬ ((2<ty∧n≠0)∨(ty≠3∧ty≠4∧(x:Int)≠0)∨(ty≠4∧(y:Int)≠0)∨(ty<5∧s.size≠0)))):=fun h=>by rw [hS];exact same_own ty n x y s h
 clear hS
 generalize ownN ty n=n' at*
 generalize ownX ty x=x' at*
 generalize ownY ty y=y' at*
 generalize ownS ty s=s' at*
 go_enter Tryz.func153,Tryz.ntmps153
 go_upto_region 3 with (fail)
 all_goals try (go_ret;exact ⟨ret_int (by unfold rightV;rw [if_pos (by omega)]),by exact eX⟩)
 go_region_held3 (fun w' =>Ext (w.alloc (.cells #[.int .u8 ty, .int .i64 n, .complex .f64 x y, .string s] 162)) w'∧(∀b o,b<(w.alloc (.cells #[.int .u8 ty, .int .i64 n, .complex .f64 x y, .string s] 162)).heap.size→w'.cell? ⟨b,o,none⟩=(w.alloc (.cells #[.int .u8 ty, .int .i64 n, .complex .f64 x y, .string s] 162)).cell? ⟨b,o,none⟩)∧(∀b o,b<(w.alloc (.cells #[.int .u8 ty, .int .i64 n, .complex .f64 x y, .string s] 162)).heap.size→w'.frozen? ⟨b,o,none⟩=(w.alloc (.cells #[.int .u8 ty, .int .i64 n, .complex .f64 x y, .string s] 162)).frozen? ⟨b,o,none⟩)) ((exact held_of (by exact eX)))
  (first
   |(go_at_call 170;refine (HO.out _).mono ?_;rintro e w1 ⟨rfl,hb1⟩)
   |(go_at_call 169;refine (HSa.out _).mono ?_;rintro e w2 ⟨rfl,hb2⟩))
 go_wp2_with (go_at_call 171;refine (HP.out _).mono ?_;rintro e w3 ⟨rfl,rfl⟩)
 all_goals
  go_ret
  refine ⟨ret_int ?_,by exact eX⟩
  have hS3:=HS2.out ⟨by omega,by omega⟩
  clear HP HO HSa HS2
  unfold rightV
  cases S<;>simp only [Bool.not_true,Bool.not_false,Bool.false_eq_true,false_iff,true_iff,Classical.not_not,reduceCtorEq] at*
  all_goals first
   |((repeat' split)<;>(first|rfl|(exfalso;omega)|(simp_all;done)|(simp_all;omega)|(exfalso;simp_all;omega)))
def zig (n:Int):Nat:=if n<0 then (-2*n - 1).toNat else (2*n).toNat
theorem u64_wrap (n:Int):IntKind.u64.wrap n=n%18446744073709551616:=by
 simp [IntKind.wrap,IntKind.signed,IntKind.bits]
def strL (s:ByteArray):List Int:=s.data.toList.map fun b=>(b.toNat:Int)
theorem strL_len (s:ByteArray):(strL s).length=s.size:=by simp [strL]
def NB (w:World) (u:Value) (m:List Int):Prop:=(u= .slice none 0 0∧m= [])∨∃ad cap,u= .slice (some ad) m.length cap∧∀j z,(bs m)[j]? =some z→w.cell? (ad.add j)=some z
theorem NB.nil (w:World):NB w (.slice none 0 0) []:= .inl ⟨rfl,rfl⟩
theorem NB.of_own {w:World} {base:Nat} {v:Value} {m:List Int} (h:OB w base v m):NB w v m:=by
 rcases h.2 with ⟨rfl,h0⟩|⟨g,cap,cur,rfl,_⟩
 ·exact .inl ⟨rfl,List.length_eq_zero_iff.1 h0⟩
 ·exact .inr ⟨_,cap,rfl,World.ownsRow.cells h rfl⟩
theorem NB.ext {w w1:World} {v:Value} {m:List Int} (h:NB w v m) (hsz:∀ad len cap,v= .slice (some ad) len cap→0<len→ad.block<w.heap.size) (he:Ext w w1):NB w1 v m:=by
 rcases h with h|⟨ad,cap,rfl,h⟩
 ·exact .inl h
 ·refine .inr ⟨ad,cap,rfl,fun j z hj=> ?_⟩
  have hl:0<m.length:=by
   rcases Nat.eq_zero_or_pos m.length with h0|h0
   ·have:m= []:=List.length_eq_zero_iff.1 h0
    subst this;simp [bs] at hj
   ·exact h0
  have hb:=hsz ad _ cap rfl hl
  rw [←h j z hj]
  exact Below.cell he (by unfold Addr.add;split<;>exact hb)
theorem run_app_bytesS {w:World} (base:Nat) (v:Value) (l:List Int) (ty:TypeId) (hown:OB w base v l) (u:Value) (m:List Int) (hu:NB w u m) (h63:l.length+m.length≤100000000000000) (hbase:base≤w.heap.size):
 ∃v' w',(Builtin.append_ #[28,28] ty #[v,u]).run Tryz.prog w= .ok v' w'∧OB w' base v' (l++m)∧w.grownBy w' v.ownBlock:=by
 obtain ⟨i0,hi,hz0,hz1,hz2⟩:=info_parts Tryz.infoU8
 rcases hu with ⟨rfl,rfl⟩|⟨ad,cap,rfl,hn⟩
 ·exact ⟨v,w,run_append_owned_none (P:=Tryz.prog) (w:=w) base 28 ty 5 i0 1 Tryz.underlying28 hi v _ _ hown,by rw [List.append_nil];exact hown,⟨rfl,rfl,rfl,Nat.le_refl _,fun _ _ _=>rfl⟩⟩
 ·obtain ⟨v',w',h1,h2,h3, -⟩:=run_append_own (P:=Tryz.prog) w base 28 ty 5 i0 _ 1 1 Tryz.underlying28 hi hz0 hz1 hz2 rfl (by decide) v _ _ hown ad m.length cap (bs m) (by rw [bs_len,Nat.mul_one]) hn (bs_one m) (by unfold maxLen;omega) (by omega) hbase
  exact ⟨v',w',h1,OB.push h2 rfl,h3⟩
theorem app_bytesIn {F:Fence} {n:Nat} {w:World} {ops:Array Oper} {rest:List Oper} {o:Oper} {a:Act} {Q:Exit→Act→World→Prop} (hgd:o.guard=none) (s x:Operand)
 (ho:o.op= .call { callee:= .builtin .append,args:= #[s,x],argTypes:= #[28,28] })
 (base:Nat) (v:Value) (l:List Int) (hs:a.eval s=v) (hown:OB w base v l) (u:Value) (m:List Int) (hx:a.eval x=u) (hu:NB w u m)
 (h63:l.length+m.length≤100000000000000) (hbase:base≤w.heap.size)
 (h:∀v' w',OB w' base v' (l++m)→w.grownBy w' v.ownBlock→wpListIn F n Tryz.prog ops Q rest (a.put o.dst v') w'):wpListIn F n Tryz.prog ops Q (o::rest) a w:=by
 refine wpListIn_plain hgd fun K hK=> ?_
 obtain ⟨v',w',hr,h1,h2⟩:=run_app_bytesS base v l o.type hown u m hu h63 hbase
 unfold Oper.wpIn
 refine ⟨?_, ?_⟩
 ·simp [Oper.about,ho,resolve,Target.leads,Sem.run_pure]
 ·rw [Oper.semAt_plain F _ _ (by rw [ho];intro c hc';cases hc')]
  simp [execOp,ho,resolve,invoke,builtin,hs,hx,hr,Result.andThen]
  exact hK _ _ (h v' w' h1 h2)
structure V where
 ty:Int
 n:Int
 x:Nat
 y:Nat
 s:ByteArray
def V.zero:V:=⟨0,0,0,0,ByteArray.empty⟩
def V.right (v:V):Int:=rightV v.ty v.n v.x v.y v.s
def V.wf (v:V):Prop:=(-9223372036854775808≤v.n∧v.n<9223372036854775808)∧v.x<2 ^ 64∧v.y<2 ^ 64
theorem right_zero {ty n x y:Int} {s:ByteArray} (h:rightV ty n x y s=0):1≤ty∧ty≤6∧s.size≤2048∧(ty=1→n=0∨n=1)∧(2<ty→n=0)∧(ty≠3→ty≠4→x=0)∧(ty≠4→y=0)∧(ty<5→s.size=0)∧(ty=5→plainB s=true):=by
 unfold rightV at h
 (repeat' split at h)<;>first|(exfalso;omega)|skip
 rename_i h1 h2 h3 h4 h5
 refine ⟨by omega,by omega,by omega,by omega,by omega,by omega,by omega,by omega, ?_⟩
 intro h6
 cases hp:plainB s
 ·exact absurd ⟨h6,hp⟩ h5
 ·rfl
end Go.Proofs.YtgmphpccpfaapaaGreatDoor
