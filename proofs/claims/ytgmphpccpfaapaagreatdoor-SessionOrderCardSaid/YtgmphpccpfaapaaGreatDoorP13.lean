/-
The key of a row: the program's image.KeyOf.
-/
import Derived.Test.YtgmphpccpfaapaaGreatDoorP6
import Derived.Test.YtgmphpccpfaapaaGreatDoorP12
import Derived.Test.YtgmphpccpfaapaaGreatDoorP4
import Derived.Test.YtgmphpccpfaapaaGreatDoorP9
set_option maxRecDepth 100000
set_option maxHeartbeats 16000000
namespace Go.Proofs.YtgmphpccpfaapaaGreatDoor
open Go.RowKit Go.Shelf
attribute [local go_sem] Oper.semAt_some
def isKeyAt (cols:List Col) (i:Nat):Bool:=(cols[i]?.map Col.key).getD false
def keyOf (cols:List Col) (l:List K):List K:=l.mapIdx fun i c=>if isKeyAt cols i=true then c else K.zero
def fillK {cols:List Col} (l:List K) (pre:List (KX cols)):List K:=l.mapIdx fun i c=>if pre.any (fun x=>x.1.1==i)=true then c else K.zero
theorem fillK_len {cols:List Col} {l:List K} {pre:List (KX cols)} :(fillK l pre).length=l.length:=by simp [fillK]
theorem fillK_get {cols:List Col} {l:List K} {pre:List (KX cols)} {i:Nat} (h:i<(fillK l pre).length):(fillK l pre)[i]=if pre.any (fun x=>x.1.1==i)=true then l[i]'(by rw [fillK_len] at h;exact h) else K.zero:=by
 simp [fillK]
theorem fillK_nil {cols:List Col} {l:List K} :fillK l ([]:List (KX cols))=List.replicate l.length K.zero:=by
 apply List.ext_getElem
 ·simp [fillK]
 ·intro i h1 h2;rw [fillK_get];simp
theorem fillK_set {cols:List Col} {l:List K} {pre:List (KX cols)} {x:KX cols} (h:x.1.1<l.length):fillK l (pre++ [x])=(fillK l pre).set x.1.1 l[x.1.1]:=by
 apply List.ext_getElem
 ·simp [fillK]
 ·intro i h1 h2
  rw [fillK_get,List.getElem_set]
  by_cases e:x.1.1=i
  ·subst e;simp
  ·rw [if_neg e,fillK_get,List.any_append]
   have:([x].any fun x=>x.1.1==i)=false:=by simp [e]
   rw [this,Bool.or_false]
theorem fillK_skip {cols:List Col} {l:List K} {pre:List (KX cols)} {x:KX cols} (h:l.length≤x.1.1):fillK l (pre++ [x])=fillK l pre:=by
 apply List.ext_getElem
 ·simp [fillK]
 ·intro i h1 h2
  rw [fillK_get,fillK_get,List.any_append]
  have hi:i<l.length:=by rw [fillK_len] at h2;exact h2
  have:([x].any fun x=>x.1.1==i)=false:=by simp;omega
  rw [this,Bool.or_false]
theorem isKey_any {cols:List Col} {i:Nat} :(keysUp cols cols.length).any (fun x=>x.1.1==i)=isKeyAt cols i:=by
 rw [Bool.eq_iff_iff,List.any_eq_true]
 unfold isKeyAt
 constructor
 ·rintro ⟨⟨⟨j,c⟩,hj,hc,hk⟩,_,h⟩
  simp only [beq_iff_eq] at h
  subst h
  simp only at hc hk
  rw [hc];simpa using hk
 ·intro h
  cases hc:cols[i]? with
  |none=>rw [hc] at h;simp at h
  |some c=>
   rw [hc] at h
   have hi:i<cols.length:=(List.getElem?_eq_some_iff.1 hc).1
   exact ⟨⟨(i,c),hi,hc,by simpa using h⟩,(keysUp_mem _ _).2 hi,by simp⟩
theorem fillK_all {cols:List Col} {l:List K} :fillK l (keysUp cols cols.length)=keyOf cols l:=by
 unfold fillK keyOf
 congr 1
 funext i c
 rw [isKey_any]
theorem keyOf_in (F:Fence) (n:Nat) (h1F:F.fn 144) (hKF:F.fn 120) (hDF:F.fn 130) (hro:F.round=none) (hn:3≤n) (oid ver:Int) (nm:ByteArray) (id:Int) (cols:List Col) (a2:Option Addr) (cap2:Nat) (l:List K) (a:Option Addr) (cap:Nat) (w:World)
 (hl2:Sl w (.slice a2 cols.length cap2) 3 (cols.map Col.cells)) (hlen2:cols.length≤1000) (hl:Sl w (.slice a l.length cap) 5 (l.map K.pc)) (hlen:l.length≤1000):
 CallsIn F n Tryz.prog 130 #[.agg #[.int .u32 oid, .int .u32 ver, .string nm, .int .u8 id, .slice a2 cols.length cap2], .slice a l.length cap] w fun e w' =>∃g cap',e= .returned (.slice (some ⟨g,0,none⟩) l.length cap')∧l.length≤cap'∧w.heap.size≤g∧RowAt w' g (keyOf cols l)∧Ext w w' :=by
 have h1:1≤n:=by omega
 have HL:=Hm hl
 have HL2:=Hm hl2
 clear hl hl2
 obtain ⟨cs,hmk0,hcs1,hcs2⟩:=run_makeK l.length hlen ((w.alloc (.cells #[.int .u32 oid, .int .u32 ver, .string nm, .int .u8 id, .slice a2 cols.length cap2] 72)).alloc (.cells #[.slice a l.length cap] 74))
 have hmk:(Instr.makeSlice 74 (.int .i64 (l.length:Int)) (.int .i64 (l.length:Int))).run Tryz.prog ((w.alloc (.cells #[.int .u32 oid, .int .u32 ver, .string nm, .int .u8 id, .slice a2 cols.length cap2] 72)).alloc (.cells #[.slice a l.length cap] 74))= .ok (.slice (some ⟨w.heap.size+1+1,0,none⟩) l.length l.length) (((w.alloc (.cells #[.int .u32 oid, .int .u32 ver, .string nm, .int .u8 id, .slice a2 cols.length cap2] 72)).alloc (.cells #[.slice a l.length cap] 74)).alloc (.cells cs 164)):=by
  rw [hmk0];simp
 have HC:=Hm (And.intro hcs1 hcs2)
 clear hmk0 hcs1 hcs2
 refine callsIn_of_wp_marks Tryz.func130 rfl hDF ?_ hro
 simp only [Tryz.ntmps130,List.size_toArray,List.length_cons,List.length_nil,Nat.reduceAdd,Nat.reduceSub,Array.replicate_succ,Array.replicate_zero,List.push_toArray,List.append_toArray,List.nil_append,List.cons_append]
 gi_wp2_with (gi_at_call 120;refine (keys_in F (n - 1) hKF hro _ _ _ _ _ _).mono ?_;rintro e w' ⟨rfl,rfl⟩)
 have hE5:Ext w (((((w.alloc (.cells #[.int .u32 oid, .int .u32 ver, .string nm, .int .u8 id, .slice a2 cols.length cap2] 72)).alloc (.cells #[.slice a l.length cap] 74)).alloc (.cells cs 164)).alloc (.cells #[.slice (some ⟨w.heap.size+1+1,0,none⟩) l.length l.length] 74)).alloc (.cells #[.int .u32 oid, .int .u32 ver, .string nm, .int .u8 id, .slice a2 cols.length cap2] 72)):=(((((Ext.refl w).alloc _).alloc _).alloc _).alloc _).alloc _
 have hB1:Blk (((((w.alloc (.cells #[.int .u32 oid, .int .u32 ver, .string nm, .int .u8 id, .slice a2 cols.length cap2] 72)).alloc (.cells #[.slice a l.length cap] 74)).alloc (.cells cs 164)).alloc (.cells #[.slice (some ⟨w.heap.size+1+1,0,none⟩) l.length l.length] 74)).alloc (.cells #[.int .u32 oid, .int .u32 ver, .string nm, .int .u8 id, .slice a2 cols.length cap2] 72)) (w.heap.size+1) #[.slice a l.length cap] 74:=(((Blk.new' _ _ (by simp)).alloc _).alloc _).alloc _
 have hB2:Blk (((((w.alloc (.cells #[.int .u32 oid, .int .u32 ver, .string nm, .int .u8 id, .slice a2 cols.length cap2] 72)).alloc (.cells #[.slice a l.length cap] 74)).alloc (.cells cs 164)).alloc (.cells #[.slice (some ⟨w.heap.size+1+1,0,none⟩) l.length l.length] 74)).alloc (.cells #[.int .u32 oid, .int .u32 ver, .string nm, .int .u8 id, .slice a2 cols.length cap2] 72)) (w.heap.size+1+1) cs 164:=((Blk.new' _ _ (by simp)).alloc _).alloc _
 have hB3:Blk (((((w.alloc (.cells #[.int .u32 oid, .int .u32 ver, .string nm, .int .u8 id, .slice a2 cols.length cap2] 72)).alloc (.cells #[.slice a l.length cap] 74)).alloc (.cells cs 164)).alloc (.cells #[.slice (some ⟨w.heap.size+1+1,0,none⟩) l.length l.length] 74)).alloc (.cells #[.int .u32 oid, .int .u32 ver, .string nm, .int .u8 id, .slice a2 cols.length cap2] 72)) (w.heap.size+1+1+1) #[.slice (some ⟨w.heap.size+1+1,0,none⟩) l.length l.length] 74:=(Blk.new' _ _ (by simp)).alloc _
 have hB4:Blk (((((w.alloc (.cells #[.int .u32 oid, .int .u32 ver, .string nm, .int .u8 id, .slice a2 cols.length cap2] 72)).alloc (.cells #[.slice a l.length cap] 74)).alloc (.cells cs 164)).alloc (.cells #[.slice (some ⟨w.heap.size+1+1,0,none⟩) l.length l.length] 74)).alloc (.cells #[.int .u32 oid, .int .u32 ver, .string nm, .int .u8 id, .slice a2 cols.length cap2] 72)) (w.heap.size+1+1+1+1) #[.int .u32 oid, .int .u32 ver, .string nm, .int .u8 id, .slice a2 cols.length cap2] 72:=Blk.new' _ _ (by simp)
 have hRow:RowAt (((((w.alloc (.cells #[.int .u32 oid, .int .u32 ver, .string nm, .int .u8 id, .slice a2 cols.length cap2] 72)).alloc (.cells #[.slice a l.length cap] 74)).alloc (.cells cs 164)).alloc (.cells #[.slice (some ⟨w.heap.size+1+1,0,none⟩) l.length l.length] 74)).alloc (.cells #[.int .u32 oid, .int .u32 ver, .string nm, .int .u8 id, .slice a2 cols.length cap2] 72)) (w.heap.size+1+1) (fillK l ([]:List (KX cols))):=by
  rw [fillK_nil]
  refine ⟨cs,hB2,by rw [List.length_replicate];exact HC.out.1,fun i hi j hj=> ?_⟩
  rw [List.length_replicate] at hi
  rw [List.getElem_replicate]
  exact HC.out.2 i hi j hj
 clear hmk
 refine wpIn_rangeFunc_ownG hro h1 (gf:=144) (lb:= #[.pointer (some ⟨w.heap.size+1+1+1+1,0,none⟩)]) rfl h1F (enters_of Tryz.func144 (by kernel_rfl) rfl)
  (keys_stops F (n - 1) h1F hro (by omega) (w.heap.size+1+1+1+1) w a2 cap2 cols hlen2 HL2.out _ hE5 (hB4.cell 4) hB4.lt) belowK_t (belowK_b (by simp;omega)) (Below.refl _ _) (fun _=>rfl)
  (fun pre W=>(RowAt W (w.heap.size+1+1) (fillK l pre)∧W.cell? ⟨w.heap.size+1+1+1,0,none⟩=some (.slice (some ⟨w.heap.size+1+1,0,none⟩) l.length l.length)∧W.cell? ⟨w.heap.size+1,0,none⟩=some (.slice a l.length cap))∧Below w.heap.size w W)
  (fun _ _ _=>False)
  (OwnFrom.and (Own.from (fun s A B row hs hg hr=>⟨hs.1.kept hg hr,cell_kept hs.2.1 hg hr,cell_kept hs.2.2 hg hr⟩) _) (ownFrom_below (Nat.le_refl _) (by simp;omega)))
  (fun _ _ _ _ _ hs _ _=>hs)
  ⟨⟨hRow,hB3.cell 0,hB1.cell 0⟩,hE5⟩
  (fun x=> { tmps:= #[.agg #[.int .u32 oid, .int .u32 ver, .string nm, .int .u8 id, .slice a2 cols.length cap2], .slice a l.length cap, .pointer (some ⟨w.heap.size,0,none⟩), .pointer (some ⟨w.heap.size+1,0,none⟩), .slice none 0 0, .pointer (some ⟨w.heap.size+1+1+1,0,none⟩), .int .i64 (x.1.1:Int), .slice a l.length cap, .int .i64 (l.length:Int), .slice (some ⟨w.heap.size+1+1,0,none⟩) l.length l.length, .agg #[.int .u32 oid, .int .u32 ver, .string nm, .int .u8 id, .slice a2 cols.length cap2], .func (.func 144) #[] #[.pointer (some ⟨w.heap.size+1+1+1+1,0,none⟩)], .int .i64 (x.1.1:Int), .agg #[.string x.1.2.nm, .int .u8 x.1.2.ty, .bool x.1.2.key],undef,undef,undef,undef,undef,undef,undef,undef,undef,undef,undef,undef],defers:= [] }) ?assign ?body ?done ?stop
 case assign=>
  intro l x W K hK
  unfold encK
  rw [fold_two]
  gi_wp2
  exact hK
 case body=>
  rintro lr pre x W ⟨⟨hr,hco,hcw⟩,hB⟩ _
  have HR:=Hm hr
  have HB:=Hm hB
  clear hr hB
  have hx:x.1.1<cols.length:=x.2.1
  have hmx:Tryz.prog.follows .mixedOrders=true:=by kernel_rfl
  by_cases hlt:x.1.1<l.length
  ·obtain ⟨b,o,rfl,hb,hc⟩:=HL.out.at_ (i:=x.1.1) (by simpa using hlt)
   obtain ⟨f0,f1,f2,f3,f4⟩:=K.pcAt hlt hc hb HB.out
   have hs:=HR.out.cells (i:=x.1.1) (by rw [fillK_len];exact hlt)
   obtain ⟨s0,s1,s2,s3,s4⟩:=hs
   have sf:=HR.out.frozen
   have HU:=Hm (fillK_set (pre:=pre) hlt)
   clear hc
   gi_wp2
   gi_region_with_o (fail)
   all_goals
    gi_wp2
    have HBW:=Hm (((((((Below.refl w.heap.size W).setCell (p:=⟨w.heap.size+1+1,x.1.1*5,none⟩) (by show w.heap.size≤w.heap.size+1+1;omega) (.int .u8 l[x.1.1].k)).setCell (p:=⟨w.heap.size+1+1,x.1.1*5+1,none⟩) (by show w.heap.size≤w.heap.size+1+1;omega) (.int .u8 l[x.1.1].v.ty)).setCell (p:=⟨w.heap.size+1+1,x.1.1*5+2,none⟩) (by show w.heap.size≤w.heap.size+1+1;omega) (.int .i64 l[x.1.1].v.n)).setCell (p:=⟨w.heap.size+1+1,x.1.1*5+3,none⟩) (by show w.heap.size≤w.heap.size+1+1;omega) (.complex .f64 l[x.1.1].v.x l[x.1.1].v.y)).setCell (p:=⟨w.heap.size+1+1,x.1.1*5+4,none⟩) (by show w.heap.size≤w.heap.size+1+1;omega) (.string l[x.1.1].v.s)).drew)
    refine ⟨((((((KeepsOthers.setCell _ _ _).trans (KeepsOthers.setCell _ _ _)).trans (KeepsOthers.setCell _ _ _)).trans (KeepsOthers.setCell _ _ _)).trans (KeepsOthers.setCell _ _ _)).trans (KeepsOthers.drew _)).from _,HBW.out,⟨by rw [HU.out];exact (HR.out.set (by rw [fillK_len];exact hlt) l[x.1.1]).drew, ?_, ?_⟩,HB.out.trans HBW.out⟩<;>go_simp
  ·have hge:l.length≤x.1.1:=by omega
   have HU:=Hm (fillK_skip (pre:=pre) hge)
   gi_wp2
   exact ⟨KeepsFrom.refl _ _,Below.refl _ _,⟨by rw [HU.out];exact HR.out,hco,hcw⟩,HB.out⟩
 case done=>
  rintro D ys W hD rfl ⟨⟨hr,hco,hcw⟩,hB⟩ hK
  gi_wp2
  refine ⟨by simp, .inl ⟨_,_,rfl,run_takeDeferred hK, ?_⟩⟩
  refine ⟨_,results_tmp rfl _ _ _,w.heap.size+1+1,l.length,rfl,Nat.le_refl _,by omega, ?_,hB.trans (belowK_b (w:=w) (Nat.le_refl _) W D _ _ (by simp at hD;omega) hK rfl rfl)⟩
  rw [←fillK_all]
  exact hr.kept (grownBy_putObj' _ D (.deferred none)) (fun r e=>by cases e;exact ⟨_,hK,rfl⟩)
 case stop=>
  rintro D c pre W _ _ h _
  exact h.elim
theorem keyOf_any (oid ver:Int) (nm:ByteArray) (id:Int) (cols:List Col) (a2:Option Addr) (cap2:Nat) (l:List K) (a:Option Addr) (cap:Nat) (w:World)
 (hl2:Sl w (.slice a2 cols.length cap2) 3 (cols.map Col.cells)) (hlen2:cols.length≤1000) (hl:Sl w (.slice a l.length cap) 5 (l.map K.pc)) (hlen:l.length≤1000):
 Calls Tryz.prog 130 #[.agg #[.int .u32 oid, .int .u32 ver, .string nm, .int .u8 id, .slice a2 cols.length cap2], .slice a l.length cap] w fun e w' =>∃g cap',e= .returned (.slice (some ⟨g,0,none⟩) l.length cap')∧l.length≤cap'∧w.heap.size≤g∧RowAt w' g (keyOf cols l)∧Ext w w' :=
 callsIn_wide.1 (keyOf_in Fence.wide 3 trivial trivial trivial rfl (Nat.le_refl _) oid ver nm id cols a2 cap2 l a cap w hl2 hlen2 hl hlen)
end Go.Proofs.YtgmphpccpfaapaaGreatDoor
namespace Go.Proofs.YtgmphpccpfaapaaGreatDoor
open Go.RowKit
theorem rtexty_yes (kind:Int) (w:World) (h:kind=5∨kind=6):Calls Tryz.prog 179 #[.int .u8 kind] w fun e w' =>e= .returned (.bool true)∧w=w' :=by
 rcases h with rfl|rfl
 all_goals
  go_enter Tryz.func179,Tryz.ntmps179
  go_wp2
  go_ret
  exact ⟨rfl,rfl⟩
theorem rtexty_no (kind:Int) (w:World) (h:kind≠5∧kind≠6):Calls Tryz.prog 179 #[.int .u8 kind] w fun e w' =>e= .returned (.bool false)∧w=w' :=by
 have h5:(kind==5)=false:=by simpa using h.1
 have h6:(kind==6)=false:=by simpa using h.2
 clear h
 go_enter Tryz.func179,Tryz.ntmps179
 go_wp2
 go_ret
 exact ⟨rfl,rfl⟩
theorem rcright_any (k ty n:Int) (x y:Nat) (s:ByteArray) (kind:Int) (w:World) (hk0:0≤k) (hs:s.size≤9223372036854775807):
 Calls Tryz.prog 166 #[.agg #[.int .u8 k, .int .u8 ty, .int .i64 n, .int .u64 x, .int .u64 y, .string s], .int .u8 kind] w fun e w' =>e= .returned (.int .i64 (rightC k ty n x y s kind))∧Ext w w' :=by
 have HV:=Hm (fun w=>rright_any ty n x y s w hs)
 by_cases hkd:kind<1∨6<kind
 ·have HR:Hid (rightC k ty n x y s kind=11):=Hm (by unfold rightC;rw [if_pos hkd])
  by_cases h1:kind<1
  ·clear hkd
   go_enter Tryz.func166,Tryz.ntmps166
   go_wp2
   go_ret
   exact ⟨ret_int HR.out.symm,by exact eX⟩
  ·have h6:6<kind:=by omega
   clear hkd
   go_enter Tryz.func166,Tryz.ntmps166
   go_wp2
   go_ret
   exact ⟨ret_int HR.out.symm,by exact eX⟩
 have hd1:1≤kind:=by omega
 have hd2:kind≤6:=by omega
 by_cases hk2:2<k
 ·have HR:Hid (rightC k ty n x y s kind=7):=Hm (by unfold rightC;rw [if_neg hkd,if_pos hk2])
  clear hkd
  go_enter Tryz.func166,Tryz.ntmps166
  go_wp2
  go_ret
  exact ⟨ret_int HR.out.symm,by exact eX⟩
 by_cases hk3:k<2
 ·by_cases hz:ty=0∧n=0∧(x:Int)=0∧(y:Int)=0∧s.size=0
  ·obtain ⟨h_1,h_2,h_3,h_4,h_5⟩:=hz
   obtain rfl:=h_1
   obtain rfl:=h_2
   obtain rfl:x=0:=by omega
   obtain rfl:y=0:=by omega
   obtain rfl:s=ByteArray.empty:=(size_zero s).2 h_5
   have hz:(0:Int)=0∧(0:Int)=0∧((0:Nat):Int)=0∧((0:Nat):Int)=0∧ByteArray.empty.size=0:=⟨rfl,rfl,rfl,rfl,rfl⟩
   clear h_3 h_4 h_5
   by_cases h1:k=1
   ·subst h1
    by_cases ht:kind=5∨kind=6
    ·have HR:Hid (rightC 1 0 0 ((0:Nat):Int) ((0:Nat):Int) ByteArray.empty kind=0):=Hm (by unfold rightC;rw [if_neg hkd,if_neg hk2,if_pos hk3,if_pos hz,if_neg (by omega)])
     have HX:=Hm (fun w=>rtexty_yes kind w ht)
     clear hkd hz ht
     go_enter Tryz.func166,Tryz.ntmps166
     go_wp2_with (go_at_call 179;refine (HX.out _).mono ?_;rintro e w1 ⟨rfl,rfl⟩)
     go_ret
     exact ⟨ret_int HR.out.symm,by exact eX⟩
    ·have HR:Hid (rightC 1 0 0 ((0:Nat):Int) ((0:Nat):Int) ByteArray.empty kind=11):=Hm (by unfold rightC;rw [if_neg hkd,if_neg hk2,if_pos hk3,if_pos hz,if_pos (by omega)])
     have HX:=Hm (fun w=>rtexty_no kind w (by omega))
     clear hkd hz ht
     go_enter Tryz.func166,Tryz.ntmps166
     go_wp2_with (go_at_call 179;refine (HX.out _).mono ?_;rintro e w1 ⟨rfl,rfl⟩)
     go_ret
     exact ⟨ret_int HR.out.symm,by exact eX⟩
   ·obtain rfl:k=0:=by omega
    have HR:Hid (rightC 0 0 0 ((0:Nat):Int) ((0:Nat):Int) ByteArray.empty kind=0):=Hm (by unfold rightC;rw [if_neg hkd,if_neg hk2,if_pos hk3,if_pos hz,if_neg (by omega)])
    clear hkd hz h1
    go_enter Tryz.func166,Tryz.ntmps166
    go_wp2
    go_ret
    exact ⟨ret_int HR.out.symm,by exact eX⟩
  ·have HR:Hid (rightC k ty n x y s kind=3):=Hm (by unfold rightC;rw [if_neg hkd,if_neg hk2,if_pos hk3,if_neg hz])
   have HZ:=Hm hz
   clear hkd hz
   by_cases g1:ty=0
   ·subst g1
    by_cases g2:n=0
    ·subst g2
     by_cases g3:x=0
     ·subst g3
      by_cases g4:y=0
      ·subst g4
       have g5: ¬ s.toList= []:=by
        intro h
        refine HZ.out ⟨rfl,rfl,rfl,rfl, ?_⟩
        have:=isEmpty_size s
        rw [h] at this
        exact of_decide_eq_true this.symm
       have g6:(s.toList== [])=false:=by simpa using g5
       go_enter Tryz.func166,Tryz.ntmps166
       go_wp2
       go_ret
       exact ⟨ret_int HR.out.symm,by exact eX⟩
      ·go_enter Tryz.func166,Tryz.ntmps166
       go_wp2
       go_ret
       exact ⟨ret_int HR.out.symm,by exact eX⟩
     ·go_enter Tryz.func166,Tryz.ntmps166
      go_wp2
      go_ret
      exact ⟨ret_int HR.out.symm,by exact eX⟩
    ·go_enter Tryz.func166,Tryz.ntmps166
     go_wp2
     go_ret
     exact ⟨ret_int HR.out.symm,by exact eX⟩
   ·go_enter Tryz.func166,Tryz.ntmps166
    go_wp2
    go_ret
    exact ⟨ret_int HR.out.symm,by exact eX⟩
 ·obtain rfl:k=2:=by omega
  obtain ⟨R,hR⟩:∃R,R=rightV ty n x y s:=⟨_,rfl⟩
  rw [←hR] at HV
  by_cases h0:R=0
  ·subst h0
   by_cases ht:ty=kind
   ·have HR:Hid (rightC 2 ty n x y s kind=0):=Hm (right_mk hR.symm ht)
    subst ht
    clear hkd hR
    go_enter Tryz.func166,Tryz.ntmps166
    go_wp2_with (go_at_call 163;refine (HV.out _).mono ?_;rintro e w1 ⟨rfl,hb1⟩;have h1:=(Blk.new w #[.int .u8 2, .int .u8 ty, .int .i64 n, .int .u64 x, .int .u64 y, .string s] 101).ext hb1;have k1:=h1.cell;have z1:=h1.lt)
    go_ret
    exact ⟨ret_int HR.out.symm,by exact eX⟩
   ·have HR:Hid (rightC 2 ty n x y s kind=11):=Hm (by unfold rightC;rw [if_neg hkd,if_neg hk2,if_neg hk3,if_neg (by rw [←hR];decide),if_pos ht])
    have ht2:(ty !=kind)=true:=by simpa using ht
    clear hkd hR ht
    go_enter Tryz.func166,Tryz.ntmps166
    go_wp2_with (go_at_call 163;refine (HV.out _).mono ?_;rintro e w1 ⟨rfl,hb1⟩;have h1:=(Blk.new w #[.int .u8 2, .int .u8 ty, .int .i64 n, .int .u64 x, .int .u64 y, .string s] 101).ext hb1;have k1:=h1.cell;have z1:=h1.lt)
    go_ret
    exact ⟨ret_int HR.out.symm,by exact eX⟩
  ·have HR:Hid (rightC 2 ty n x y s kind=R):=Hm (by unfold rightC;rw [if_neg hkd,if_neg hk2,if_neg hk3,if_pos (by rw [←hR];exact h0),hR])
   have h02:(R !=0)=true:=by simpa using h0
   clear hkd hR h0
   go_enter Tryz.func166,Tryz.ntmps166
   go_wp2_with (go_at_call 163;refine (HV.out _).mono ?_;rintro e w1 ⟨rfl,hb1⟩;have h1:=(Blk.new w #[.int .u8 2, .int .u8 ty, .int .i64 n, .int .u64 x, .int .u64 y, .string s] 101).ext hb1;have k1:=h1.cell;have z1:=h1.lt)
   go_ret
   exact ⟨ret_int HR.out.symm,by exact eX⟩
def fitAt (l:List K) (cols:List Col) (i:Nat):Int:=if h:i<l.length∧i<cols.length then (l[i]'h.1).right (cols[i]'h.2).ty else 0
theorem fitAt_lt {l:List K} {cols:List Col} {i:Nat} (h:i<l.length) (h2:i<cols.length):fitAt l cols i=l[i].right cols[i].ty:=by unfold fitAt;rw [dif_pos ⟨h,h2⟩]
def fitsE (l:List K) (r:Rl):Int:=if r.right≠0 then r.right else if l.length≠r.cols.length then 17 else firstE (fitAt l r.cols) l.length
structure K.wk (c:K):Prop where
 k:0≤c.k
 s:c.v.s.size≤9223372036854775807
theorem fits_any (l:List K) (a:Option Addr) (cap:Nat) (oid ver:Int) (nm:ByteArray) (id:Int) (cols:List Col) (a2:Option Addr) (cap2:Nat) (w:World) (hl:Sl w (.slice a l.length cap) 5 (l.map K.pc)) (hl2:Sl w (.slice a2 cols.length cap2) 3 (cols.map Col.cells))
 (hcap2:cols.length≤cap2) (_hlen:l.length≤1000) (hlen2:cols.length≤1000) (hs:∀c∈l,c.wk) (hs2:∀c∈cols,c.nm.size≤9223372036854775807) (hnm:nm.size≤9223372036854775807):
 Calls Tryz.prog 149 #[.slice a l.length cap, .agg #[.int .u32 oid, .int .u32 ver, .string nm, .int .u8 id, .slice a2 cols.length cap2]] w fun e w' =>e= .returned (.int .i64 (fitsE l (⟨oid,ver,nm,id,cols⟩:Rl)))∧Ext w w' :=by
 have HR:=Hm (fun W (h:Ext w W)=>right8_any oid ver nm id cols a2 cap2 W (hl2.ext h) hcap2 hlen2 hnm hs2)
 have HF:Hid (fitsE l (⟨oid,ver,nm,id,cols⟩:Rl)=if (⟨oid,ver,nm,id,cols⟩:Rl).right≠0 then (⟨oid,ver,nm,id,cols⟩:Rl).right else if l.length≠cols.length then 17 else firstE (fitAt l cols) l.length):=Hm rfl
 have HL:=Hm hl
 have HL2:=Hm hl2
 have HS:=Hm hs
 clear hl hl2 hs hs2
 generalize (⟨oid,ver,nm,id,cols⟩:Rl).right=E at*
 by_cases h0:E=0
 case neg=>
  have HF2:=Hm (HF.out.trans (if_pos h0))
  have h0' :(E !=0)=true:=by simpa using h0
  clear h0 HF
  go_enter Tryz.func149,Tryz.ntmps149
  go_wp2_with (go_at_call 63;refine (HR.out _ (by exact eX)).mono ?_;rintro e w1 ⟨rfl,hb1⟩;have hE1:Ext w w1:=(by exact eX))
  go_ret
  exact ⟨ret_int HF2.out.symm,hE1⟩
 subst h0
 have HF2:=Hm (HF.out.trans (if_neg (by simp)))
 clear HF
 by_cases hn:l.length=cols.length
 case neg=>
  have HF3:=Hm (HF2.out.trans (if_pos hn))
  have hn' :(((l.length:Nat):Int) !=((cols.length:Nat):Int))=true:=by simp;omega
  clear hn HF2
  go_enter Tryz.func149,Tryz.ntmps149
  go_wp2_with (go_at_call 63;refine (HR.out _ (by exact eX)).mono ?_;rintro e w1 ⟨rfl,hb1⟩;have hE1:Ext w w1:=(by exact eX);have g0:=((Blk.new w #[.int .u32 oid, .int .u32 ver, .string nm, .int .u8 id, .slice a2 cols.length cap2] 72).ext hb1).cell)
  go_ret
  exact ⟨ret_int HF3.out.symm,hE1⟩
 have HF3:=Hm (HF2.out.trans (if_neg (by simpa using hn)))
 have hn' :(((l.length:Nat):Int) !=((cols.length:Nat):Int))=false:=by simp;omega
 have hnl:l.length≤cols.length:=by omega
 clear HF2
 have HNE:=Hm hn
 clear hn
 go_enter Tryz.func149,Tryz.ntmps149
 go_wp2_with (go_at_call 63;refine (HR.out _ (by exact eX)).mono ?_;rintro e w1 ⟨rfl,hb1⟩;have hE1:=Hm hb1;have g0:=((Blk.new w #[.int .u32 oid, .int .u32 ver, .string nm, .int .u8 id, .slice a2 cols.length cap2] 72).ext hb1).cell;clear hb1)
 go_loopw [22] (fun i wr=>∃k:Nat,k≤l.length∧i= .int .i64 k∧Hid (∀j,j<k→fitAt l cols j=0)∧Hid (Ext (w.alloc (.cells #[.int .u32 oid, .int .u32 ver, .string nm, .int .u8 id, .slice a2 cols.length cap2] 72)) wr)) (fun i _=>l.length - (intOf i).toNat)
 case atStart=>exact ⟨0,Nat.zero_le _,rfl,fun j h=>by omega,hE1⟩
 case round=>
  obtain ⟨k,hk,rfl,hrel,hE⟩:=hrel
  have hEw:Hid (Ext w wr):=Hm (((Ext.refl w).alloc _).trans hE.out)
  by_cases hlt:k<l.length
  ·have hlt2:k<cols.length:=by omega
   have hBx:=(Blk.new w #[.int .u32 oid, .int .u32 ver, .string nm, .int .u8 id, .slice a2 cols.length cap2] 72).ext hE.out
   have g0:=hBx.cell
   have z0:=hBx.lt
   obtain ⟨b,o,rfl,hb,hx⟩:=HL.out.at_ (i:=k) (by simpa using hlt)
   obtain ⟨f0,f1,f2,f3,f4⟩:=K.pcAt hlt hx hb hEw.out
   obtain ⟨b2,o2,rfl,hb2,hx2⟩:=HL2.out.at_ (i:=k) (by simpa using hlt2)
   obtain ⟨p0,p1,p2⟩:=Col.at_ hlt2 hx2 hb2 hEw.out
   have hbw:b<wr.heap.size:=Nat.lt_of_lt_of_le hb hEw.out.size
   have hbw2:b2<wr.heap.size:=Nat.lt_of_lt_of_le hb2 hEw.out.size
   have hwk:=HS.out _ (List.getElem_mem hlt)
   have HC:=Hm (fun W=>cright_any l[k].k l[k].v.ty l[k].v.n l[k].v.x l[k].v.y l[k].v.s cols[k].ty W hwk.k hwk.s)
   have hAt:=fitAt_lt hlt hlt2
   unfold K.right at hAt
   obtain ⟨E,hE0⟩:∃E,E=rightC l[k].k l[k].v.ty l[k].v.n l[k].v.x l[k].v.y l[k].v.s cols[k].ty:=⟨_,rfl⟩
   rw [←hE0] at HC hAt
   have HAt:=Hm hAt
   clear hx hx2 hAt hE0 hBx hwk
   by_cases h0:E=0
   ·subst h0
    go_wp2
    go_region_held3 (fun w' =>Ext (wr.alloc (.cells #[.int .u8 l[k].k, .int .u8 l[k].v.ty, .int .i64 l[k].v.n, .complex .f64 l[k].v.x l[k].v.y, .string l[k].v.s] 164)) w'∧(∀b o,b<(wr.alloc (.cells #[.int .u8 l[k].k, .int .u8 l[k].v.ty, .int .i64 l[k].v.n, .complex .f64 l[k].v.x l[k].v.y, .string l[k].v.s] 164)).heap.size→w'.cell? ⟨b,o,none⟩=(wr.alloc (.cells #[.int .u8 l[k].k, .int .u8 l[k].v.ty, .int .i64 l[k].v.n, .complex .f64 l[k].v.x l[k].v.y, .string l[k].v.s] 164)).cell? ⟨b,o,none⟩)∧(∀b o,b<(wr.alloc (.cells #[.int .u8 l[k].k, .int .u8 l[k].v.ty, .int .i64 l[k].v.n, .complex .f64 l[k].v.x l[k].v.y, .string l[k].v.s] 164)).heap.size→w'.frozen? ⟨b,o,none⟩=(wr.alloc (.cells #[.int .u8 l[k].k, .int .u8 l[k].v.ty, .int .i64 l[k].v.n, .complex .f64 l[k].v.x l[k].v.y, .string l[k].v.s] 164)).frozen? ⟨b,o,none⟩)) ((exact held_of (by exact eX)))
     (first
      |(go_at_call 168;refine (HC.out _).mono ?_;rintro e w2 ⟨rfl,hb2'⟩))
    go_wp2
    go_roundw
    case rel=>exact ⟨k+1,by omega,by go_num,fun j hj=>by
     by_cases e:j=k
     ·subst e;exact HAt.out
     ·exact hrel.out j (by omega),Hm (hE.out.trans (by exact eX))⟩
    case measure=>simp [intOf];omega
   ·have h0' :(E !=0)=true:=by simpa using h0
    have HR2:=Hm (HF3.out.trans (show firstE (fitAt l cols) l.length=E by rw [firstE_at hrel.out hlt (by rw [HAt.out];exact h0),HAt.out]))
    clear h0
    go_wp2
    go_region_held3 (fun w' =>Ext (wr.alloc (.cells #[.int .u8 l[k].k, .int .u8 l[k].v.ty, .int .i64 l[k].v.n, .complex .f64 l[k].v.x l[k].v.y, .string l[k].v.s] 164)) w'∧(∀b o,b<(wr.alloc (.cells #[.int .u8 l[k].k, .int .u8 l[k].v.ty, .int .i64 l[k].v.n, .complex .f64 l[k].v.x l[k].v.y, .string l[k].v.s] 164)).heap.size→w'.cell? ⟨b,o,none⟩=(wr.alloc (.cells #[.int .u8 l[k].k, .int .u8 l[k].v.ty, .int .i64 l[k].v.n, .complex .f64 l[k].v.x l[k].v.y, .string l[k].v.s] 164)).cell? ⟨b,o,none⟩)∧(∀b o,b<(wr.alloc (.cells #[.int .u8 l[k].k, .int .u8 l[k].v.ty, .int .i64 l[k].v.n, .complex .f64 l[k].v.x l[k].v.y, .string l[k].v.s] 164)).heap.size→w'.frozen? ⟨b,o,none⟩=(wr.alloc (.cells #[.int .u8 l[k].k, .int .u8 l[k].v.ty, .int .i64 l[k].v.n, .complex .f64 l[k].v.x l[k].v.y, .string l[k].v.s] 164)).frozen? ⟨b,o,none⟩)) ((exact held_of (by exact eX)))
     (first
      |(go_at_call 168;refine (HC.out _).mono ?_;rintro e w2 ⟨rfl,hb2'⟩))
    go_wp2
    go_ret
    exact ⟨ret_int HR2.out.symm,hEw.out.trans (by exact eX)⟩
  ·have hkk:k=l.length:=by omega
   have HR2:=Hm (HF3.out.trans (firstE_zero (fun i hi=>hrel.out i (by omega))))
   subst hkk
   go_wp2
   go_ret
   exact ⟨ret_int HR2.out.symm,hEw.out⟩
theorem rfits_big (l:List K) (a:Option Addr) (cap:Nat) (oid ver:Int) (nm:ByteArray) (id:Int) (cols:List Col) (a2:Option Addr) (cap2:Nat) (w:World) (hl:Sl w (.slice a l.length cap) 6 (l.map K.rc)) (hl2:Sl w (.slice a2 cols.length cap2) 3 (cols.map Col.cells))
 (_hlen:l.length≤9223372036854775807) (hlen2:cols.length≤9223372036854775807) (hs:∀c∈l,c.wk) (hs2:∀c∈cols,c.nm.size≤9223372036854775807) (hnm:nm.size≤9223372036854775807):
 Calls Tryz.prog 142 #[.slice a l.length cap, .agg #[.int .u32 oid, .int .u32 ver, .string nm, .int .u8 id, .slice a2 cols.length cap2]] w fun e w' =>e= .returned (.int .i64 (fitsE l (⟨oid,ver,nm,id,cols⟩:Rl)))∧Ext w w' :=by
 have HR:=Hm (fun W (h:Ext w W)=>rright8_big oid ver nm id cols a2 cap2 W (hl2.ext h) hlen2 hnm hs2)
 have HF:Hid (fitsE l (⟨oid,ver,nm,id,cols⟩:Rl)=if (⟨oid,ver,nm,id,cols⟩:Rl).right≠0 then (⟨oid,ver,nm,id,cols⟩:Rl).right else if l.length≠cols.length then 17 else firstE (fitAt l cols) l.length):=Hm rfl
 have HL:=Hm hl
 have HL2:=Hm hl2
 have HS:=Hm hs
 clear hl hl2 hs hs2
 generalize (⟨oid,ver,nm,id,cols⟩:Rl).right=E at*
 by_cases h0:E=0
 case neg=>
  have HF2:=Hm (HF.out.trans (if_pos h0))
  have h0' :(E !=0)=true:=by simpa using h0
  clear h0 HF
  go_enter Tryz.func142,Tryz.ntmps142
  go_wp2_with (go_at_call 60;refine (HR.out _ (by exact eX)).mono ?_;rintro e w1 ⟨rfl,hb1⟩;have hE1:Ext w w1:=(by exact eX))
  go_ret
  exact ⟨ret_int HF2.out.symm,hE1⟩
 subst h0
 have HF2:=Hm (HF.out.trans (if_neg (by simp)))
 clear HF
 by_cases hn:l.length=cols.length
 case neg=>
  have HF3:=Hm (HF2.out.trans (if_pos hn))
  have hn' :(((l.length:Nat):Int) !=((cols.length:Nat):Int))=true:=by simp;omega
  clear hn HF2
  go_enter Tryz.func142,Tryz.ntmps142
  go_wp2_with (go_at_call 60;refine (HR.out _ (by exact eX)).mono ?_;rintro e w1 ⟨rfl,hb1⟩;have hE1:Ext w w1:=(by exact eX);have g0:=((Blk.new w #[.int .u32 oid, .int .u32 ver, .string nm, .int .u8 id, .slice a2 cols.length cap2] 44).ext hb1).cell)
  go_ret
  exact ⟨ret_int HF3.out.symm,hE1⟩
 have HF3:=Hm (HF2.out.trans (if_neg (by simpa using hn)))
 have hn' :(((l.length:Nat):Int) !=((cols.length:Nat):Int))=false:=by simp;omega
 have hnl:l.length≤cols.length:=by omega
 clear HF2
 have HNE:=Hm hn
 clear hn
 go_enter Tryz.func142,Tryz.ntmps142
 go_wp2_with (go_at_call 60;refine (HR.out _ (by exact eX)).mono ?_;rintro e w1 ⟨rfl,hb1⟩;have hE1:=Hm hb1;have g0:=((Blk.new w #[.int .u32 oid, .int .u32 ver, .string nm, .int .u8 id, .slice a2 cols.length cap2] 44).ext hb1).cell;clear hb1)
 go_loopw [6] (fun i wr=>∃k:Nat,k≤l.length∧i= .int .i64 k∧Hid (∀j,j<k→fitAt l cols j=0)∧Hid (Ext (w.alloc (.cells #[.int .u32 oid, .int .u32 ver, .string nm, .int .u8 id, .slice a2 cols.length cap2] 44)) wr)) (fun i _=>l.length - (intOf i).toNat)
 case atStart=>exact ⟨0,Nat.zero_le _,rfl,fun j h=>by omega,hE1⟩
 case round=>
  obtain ⟨k,hk,rfl,hrel,hE⟩:=hrel
  have hEw:Hid (Ext w wr):=Hm (((Ext.refl w).alloc _).trans hE.out)
  by_cases hlt:k<l.length
  ·have hlt2:k<cols.length:=by omega
   have hBx:=(Blk.new w #[.int .u32 oid, .int .u32 ver, .string nm, .int .u8 id, .slice a2 cols.length cap2] 44).ext hE.out
   have g0:=hBx.cell
   have z0:=hBx.lt
   obtain ⟨b,o,rfl,hb,hx⟩:=HL.out.at_ (i:=k) (by simpa using hlt)
   obtain ⟨f0,f1,f2,f3,f4,f5⟩:=K.rcAt hlt hx hb hEw.out
   obtain ⟨b2,o2,rfl,hb2,hx2⟩:=HL2.out.at_ (i:=k) (by simpa using hlt2)
   obtain ⟨p0,p1,p2⟩:=Col.at_ hlt2 hx2 hb2 hEw.out
   have hbw:b<wr.heap.size:=Nat.lt_of_lt_of_le hb hEw.out.size
   have hbw2:b2<wr.heap.size:=Nat.lt_of_lt_of_le hb2 hEw.out.size
   have hwk:=HS.out _ (List.getElem_mem hlt)
   have HC:=Hm (fun W=>rcright_any l[k].k l[k].v.ty l[k].v.n l[k].v.x l[k].v.y l[k].v.s cols[k].ty W hwk.k hwk.s)
   have hAt:=fitAt_lt hlt hlt2
   unfold K.right at hAt
   obtain ⟨E,hE0⟩:∃E,E=rightC l[k].k l[k].v.ty l[k].v.n l[k].v.x l[k].v.y l[k].v.s cols[k].ty:=⟨_,rfl⟩
   rw [←hE0] at HC hAt
   have HAt:=Hm hAt
   clear hx hx2 hAt hE0 hBx hwk
   by_cases h0:E=0
   ·subst h0
    go_wp2
    go_region_held3 (fun w' =>Ext (wr) w'∧(∀b o,b<(wr).heap.size→w'.cell? ⟨b,o,none⟩=(wr).cell? ⟨b,o,none⟩)∧(∀b o,b<(wr).heap.size→w'.frozen? ⟨b,o,none⟩=(wr).frozen? ⟨b,o,none⟩)) ((exact held_of (by exact eX)))
     (first
      |(go_at_call 166;refine (HC.out _).mono ?_;rintro e w2 ⟨rfl,hb2'⟩))
    go_wp2
    go_roundw
    case rel=>exact ⟨k+1,by omega,by go_num,fun j hj=>by
     by_cases e:j=k
     ·subst e;exact HAt.out
     ·exact hrel.out j (by omega),Hm (hE.out.trans (by exact eX))⟩
    case measure=>simp [intOf];omega
   ·have h0' :(E !=0)=true:=by simpa using h0
    have HR2:=Hm (HF3.out.trans (show firstE (fitAt l cols) l.length=E by rw [firstE_at hrel.out hlt (by rw [HAt.out];exact h0),HAt.out]))
    clear h0
    go_wp2
    go_region_held3 (fun w' =>Ext (wr) w'∧(∀b o,b<(wr).heap.size→w'.cell? ⟨b,o,none⟩=(wr).cell? ⟨b,o,none⟩)∧(∀b o,b<(wr).heap.size→w'.frozen? ⟨b,o,none⟩=(wr).frozen? ⟨b,o,none⟩)) ((exact held_of (by exact eX)))
     (first
      |(go_at_call 166;refine (HC.out _).mono ?_;rintro e w2 ⟨rfl,hb2'⟩))
    go_wp2
    go_ret
    exact ⟨ret_int HR2.out.symm,hEw.out.trans (by exact eX)⟩
  ·have hkk:k=l.length:=by omega
   have HR2:=Hm (HF3.out.trans (firstE_zero (fun i hi=>hrel.out i (by omega))))
   subst hkk
   go_wp2
   go_ret
   exact ⟨ret_int HR2.out.symm,hEw.out⟩
theorem rfits_any (l:List K) (a:Option Addr) (cap:Nat) (oid ver:Int) (nm:ByteArray) (id:Int) (cols:List Col) (a2:Option Addr) (cap2:Nat) (w:World) (hl:Sl w (.slice a l.length cap) 6 (l.map K.rc)) (hl2:Sl w (.slice a2 cols.length cap2) 3 (cols.map Col.cells))
 (hlen:l.length≤1000) (hlen2:cols.length≤1000) (hs:∀c∈l,c.wk) (hs2:∀c∈cols,c.nm.size≤9223372036854775807) (hnm:nm.size≤9223372036854775807):
 Calls Tryz.prog 142 #[.slice a l.length cap, .agg #[.int .u32 oid, .int .u32 ver, .string nm, .int .u8 id, .slice a2 cols.length cap2]] w fun e w' =>e= .returned (.int .i64 (fitsE l (⟨oid,ver,nm,id,cols⟩:Rl)))∧Ext w w' :=
 rfits_big l a cap oid ver nm id cols a2 cap2 w hl hl2 (by omega) (by omega) hs hs2 hnm
end Go.Proofs.YtgmphpccpfaapaaGreatDoor
