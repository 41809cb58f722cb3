/-
The laws' Own of a relation of any number of columns; what is wrong with one of any number.
-/
import Derived.Deep.RegionHeld
import Derived.Maps.AppendAt
import Derived.Test.YtodbhliidbclcaaGreatP5
set_option maxRecDepth 100000
set_option maxHeartbeats 16000000
namespace Go.Proofs.YtodbhliidbclcaaGreat
open Go.RowKit
theorem owns_base {w:World} {base base2:Nat} {e:TypeId} {size n:Nat} {v:Value} {xs:List Value} (h:w.ownsRow base e size v n xs) (hb:base2≤base):w.ownsRow base2 e size v n xs:=by
 obtain ⟨h1,h2⟩:=h
 refine ⟨h1,h2.imp id ?_⟩
 rintro ⟨g,cap,cur,hv,hg,hr⟩
 exact ⟨g,cap,cur,hv,by omega,hr⟩
theorem own8_big (oid ver:Int) (nm:ByteArray) (id:Int) (cols:List Col) (a:Option Addr) (cap:Nat) (w:World) (hl:Sl w (.slice a cols.length cap) 3 (cols.map Col.cells)) (hlen:cols.length≤5864062014634):
 Calls Tryz.prog 47 #[.agg #[.int .u32 oid, .int .u32 ver, .string nm, .int .u8 id, .slice a cols.length cap]] w fun e w' =>∃a' cap',e= .returned (.agg #[.int .u32 oid, .int .u32 ver, .string nm, .int .u8 id, .slice a' cols.length cap'])∧cols.length≤cap'∧w'.ownsRow w.heap.size 117 3 (.slice a' cols.length cap') cols.length (cols.map Col.cells).flatten∧Ext w w' :=by
 have HL:=Hm hl
 clear hl
 obtain ⟨i0,hi,hz0,hz1,hz2⟩:=info_parts Tryz.infoCol
 go_enter Tryz.func47,Tryz.ntmps47
 go_wp2
 go_loopw [4] (fun i wr=>∃(k:Nat) (v:Value),k≤cols.length∧i= .int .i64 k∧Hid (wr.ownsRow (w.heap.size+3) 117 3 v k ((cols.map Col.cells).take k).flatten)∧Blk wr w.heap.size #[.int .u32 oid, .int .u32 ver, .string nm, .int .u8 id, .slice a cols.length cap] 77∧Blk wr (w.heap.size+1) #[.int .u32 0, .int .u32 0, .string ⟨#[]⟩, .int .u8 0, .slice none 0 0] 120∧Blk wr (w.heap.size+1+1) #[.int .u32 oid, .int .u32 ver, .string nm, .int .u8 id,v] 120∧Hid (Ext w wr)) (fun i _=>cols.length - (intOf i).toNat)
 case atStart=>exact ⟨0, .slice none 0 0,Nat.zero_le _,rfl,World.ownsRow_nil _ _ _ _,((Blk.new _ _ _).alloc _).alloc _,(Blk.new' _ _ (by simp)).alloc _,Blk.new' _ _ (by simp),Hm (by exact eX)⟩
 case round=>
  obtain ⟨k,v,hk,rfl,hown,hB0,hB1,hB2,hE⟩:=hrel
  by_cases hlt:k<cols.length
  ·obtain ⟨b,o,rfl,hb,hc⟩:=HL.out.at_ (i:=k) (by simpa using hlt)
   obtain ⟨f0,f1,f2⟩:=Col.at_ hlt hc hb hE.out
   have hT:=Hm (flat_snoc (f:=Col.cells) hlt)
   obtain ⟨c,hcc⟩:∃c,c=cols[k]:=⟨_,rfl⟩
   rw [←hcc] at f0 f1 f2 hT
   have hbw:b<wr.heap.size:=Nat.lt_of_lt_of_le hb hE.out.size
   have HC:=Hm hcc
   clear hcc hc
   have g0:=hB0.cell
   have g2:=hB2.cell
   have z0:=hB0.lt
   have z1:=hB1.lt
   have z2:=hB2.lt
   have HB0:=Hm hB0
   have HB1:=Hm hB1
   have HB2:=Hm hB2
   clear hB0 hB1 hB2
   go_wp2
   refine wp_region_head 22 (fun w' =>Ext (wr) w'∧(∀b o,b<(wr).heap.size→w'.cell? ⟨b,o,none⟩=(wr).cell? ⟨b,o,none⟩)∧(∀b o,b<(wr).heap.size→w'.frozen? ⟨b,o,none⟩=(wr).frozen? ⟨b,o,none⟩)) (by kernel_rfl) (by decide) ?_
   have hA0:Hid ((fun w' =>Ext (wr) w'∧(∀b o,b<(wr).heap.size→w'.cell? ⟨b,o,none⟩=(wr).cell? ⟨b,o,none⟩)∧(∀b o,b<(wr).heap.size→w'.frozen? ⟨b,o,none⟩=(wr).frozen? ⟨b,o,none⟩)) wr.drew):=held_of (by exact eX)
   (refine wpHd_take (i:=0) (v:= ?_) rfl (by kernel_rfl) (by kernel_rfl) (by kernel_rfl) (fun _ _ _ h=>h) (Or.inl ⟨by rfl, ?_⟩) hA0.out ?_;rotate_left 1; · (intro w' hS';(obtain ⟨hEs',hcs',hfs'⟩:=hS');go_simp;try with_reducible rfl))
   (refine wpHd_take (i:=1) (v:= ?_) rfl (by kernel_rfl) (by kernel_rfl) (by kernel_rfl) (fun _ _ _ h=>h) (Or.inl ⟨by rfl, ?_⟩) hA0.out ?_;rotate_left 1; · (intro w' hS';(obtain ⟨hEs',hcs',hfs'⟩:=hS');go_simp;try with_reducible rfl))
   (refine wpHd_take (i:=2) (v:= ?_) rfl (by kernel_rfl) (by kernel_rfl) (by kernel_rfl) (fun _ _ _ h=>h) (Or.inl ⟨by rfl, ?_⟩) hA0.out ?_;rotate_left 1; · (intro w' hS';(obtain ⟨hEs',hcs',hfs'⟩:=hS');go_simp;try with_reducible rfl))
   (refine wpHd_take (i:=3) (v:= ?_) rfl (by kernel_rfl) (by kernel_rfl) (by kernel_rfl) (fun _ _ _ h=>h) (Or.inl ⟨by rfl, ?_⟩) hA0.out ?_;rotate_left 1; · (intro w' hS';(obtain ⟨hEs',hcs',hfs'⟩:=hS');go_simp;try with_reducible rfl))
   (refine wpHd_take (i:=4) (v:= ?_) rfl (by kernel_rfl) (by kernel_rfl) (by kernel_rfl) (fun _ _ _ h=>h) (Or.inl ⟨by rfl, ?_⟩) hA0.out ?_;rotate_left 1; · (intro w' hS';(obtain ⟨hEs',hcs',hfs'⟩:=hS');go_simp;try with_reducible rfl))
   (refine wpHd_take (i:=5) (v:= ?_) rfl (by kernel_rfl) (by kernel_rfl) (by kernel_rfl) (fun _ _ _ h=>h) (Or.inl ⟨by rfl, ?_⟩) hA0.out ?_;rotate_left 1; · (intro w' hS';(obtain ⟨hEs',hcs',hfs'⟩:=hS');go_simp;try with_reducible rfl))
   (refine wpHd_take (i:=6) (v:= ?_) rfl (by kernel_rfl) (by kernel_rfl) (by kernel_rfl) (fun _ _ _ h=>h) (Or.inl ⟨by rfl, ?_⟩) hA0.out ?_;rotate_left 1; · (intro w' hS';(obtain ⟨hEs',hcs',hfs'⟩:=hS');go_simp;try with_reducible rfl))
   (refine wpHd_take (i:=7) (v:= ?_) rfl (by kernel_rfl) (by kernel_rfl) (by kernel_rfl) (fun _ _ _ h=>h) (Or.inl ⟨by rfl, ?_⟩) hA0.out ?_;rotate_left 1; · (intro w' hS';(obtain ⟨hEs',hcs',hfs'⟩:=hS');go_simp;try with_reducible rfl))
   (refine wpHd_take (i:=8) (v:= ?_) rfl (by kernel_rfl) (by kernel_rfl) (by kernel_rfl) (fun _ _ _ h=>h) (Or.inl ⟨by rfl, ?_⟩) hA0.out ?_;rotate_left 1; · (intro w' hS';(obtain ⟨hEs',hcs',hfs'⟩:=hS');go_simp;try with_reducible rfl))
   (refine wpHd_take (i:=9) (v:= ?_) rfl (by kernel_rfl) (by kernel_rfl) (by kernel_rfl) (fun _ _ _ h=>h) (Or.inl ⟨by rfl, ?_⟩) hA0.out ?_;rotate_left 1; · (intro w' hS';(obtain ⟨hEs',hcs',hfs'⟩:=hS');go_simp;try with_reducible rfl))
   (refine wpHd_take (i:=10) (v:= ?_) rfl (by kernel_rfl) (by kernel_rfl) (by kernel_rfl) (fun _ _ _ h=>h) (Or.inl ⟨by rfl, ?_⟩) hA0.out ?_;rotate_left 1; · (intro w' hS';(obtain ⟨hEs',hcs',hfs'⟩:=hS');go_simp;try with_reducible rfl))
   (refine wpHd_take (i:=11) (v:= ?_) rfl (by kernel_rfl) (by kernel_rfl) (by kernel_rfl) (fun _ _ _ h=>h) (Or.inl ⟨by rfl, ?_⟩) hA0.out ?_;rotate_left 1; · (intro w' hS';(obtain ⟨hEs',hcs',hfs'⟩:=hS');go_simp;try with_reducible rfl))
   (refine wpHd_take (i:=12) (v:= ?_) rfl (by kernel_rfl) (by kernel_rfl) (by kernel_rfl) (fun _ _ _ h=>h) (Or.inl ⟨by rfl, ?_⟩) hA0.out ?_;rotate_left 1; · (intro w' hS';(obtain ⟨hEs',hcs',hfs'⟩:=hS');go_simp;try with_reducible rfl))
   (refine wpHd_take (i:=13) (v:= ?_) rfl (by kernel_rfl) (by kernel_rfl) (by kernel_rfl) (fun _ _ _ h=>h) (Or.inl ⟨by rfl, ?_⟩) hA0.out ?_;rotate_left 1; · (intro w' hS';(obtain ⟨hEs',hcs',hfs'⟩:=hS');go_simp;try with_reducible rfl))
   (refine wpHd_take (i:=14) (v:= ?_) rfl (by kernel_rfl) (by kernel_rfl) (by kernel_rfl) (fun _ _ _ h=>h) (Or.inl ⟨by rfl, ?_⟩) hA0.out ?_;rotate_left 1; · (intro w' hS';(obtain ⟨hEs',hcs',hfs'⟩:=hS');go_simp;try with_reducible rfl))
   (refine wpHd_take (i:=15) (v:= ?_) rfl (by kernel_rfl) (by kernel_rfl) (by kernel_rfl) (fun _ _ _ h=>h) (Or.inl ⟨by rfl, ?_⟩) hA0.out ?_;rotate_left 1; · (intro w' hS';(obtain ⟨hEs',hcs',hfs'⟩:=hS');go_simp;try with_reducible rfl))
   (refine wpHd_take (i:=16) (v:= ?_) rfl (by kernel_rfl) (by kernel_rfl) (by kernel_rfl) (fun _ _ _ h=>h) (Or.inl ⟨by rfl, ?_⟩) hA0.out ?_;rotate_left 1; · (intro w' hS';(obtain ⟨hEs',hcs',hfs'⟩:=hS');go_simp;try with_reducible rfl))
   (refine wpHd_take (i:=17) (v:= ?_) rfl (by kernel_rfl) (by kernel_rfl) (by kernel_rfl) (fun _ _ _ h=>h) (Or.inl ⟨by rfl, ?_⟩) hA0.out ?_;rotate_left 1; · (intro w' hS';(obtain ⟨hEs',hcs',hfs'⟩:=hS');go_simp;try with_reducible rfl))
   (refine wpHd_take (i:=18) (v:= ?_) rfl (by kernel_rfl) (by kernel_rfl) (by kernel_rfl) (fun _ _ _ h=>h) (Or.inl ⟨by rfl, ?_⟩) hA0.out ?_;rotate_left 1; · (intro w' hS';(obtain ⟨hEs',hcs',hfs'⟩:=hS');go_simp;try with_reducible rfl))
   (refine wpHd_take (i:=19) (v:= ?_) rfl (by kernel_rfl) (by kernel_rfl) (by kernel_rfl) (fun _ _ _ h=>h) (Or.inl ⟨by rfl, ?_⟩) hA0.out ?_;rotate_left 1; · (intro w' hS';(obtain ⟨hEs',hcs',hfs'⟩:=hS');go_simp;try with_reducible rfl))
   (refine wpHd_take (i:=20) (v:= ?_) rfl (by kernel_rfl) (by kernel_rfl) (by kernel_rfl) (fun _ _ _ h=>h) (Or.inl ⟨by rfl, ?_⟩) hA0.out ?_;rotate_left 1; · (intro w' hS';(obtain ⟨hEs',hcs',hfs'⟩:=hS');go_simp;try with_reducible rfl))
   refine wpHd_one (i:=21) rfl rfl (by kernel_rfl) (fun K hK=> ?_)
   go_simp
   refine hK.out _ _ (held_of (by exact eX)) (fun hA=> ?_)
   clear hK K hA hA0
   refine wpHd_tail (by kernel_rfl) ?_
   simp only [List.drop_succ_cons,List.drop_zero]
   have hob:=owns_ne hown.out (show w.heap.size+1+1<w.heap.size+3 by omega)
   go_wp2_with (at_builtin;refine wpList_append_lies _ rfl _ _ 118 rfl (w.heap.size+3) 117 i0 _ 3 24 Tryz.underlying118 hi hz0 hz1 hz2 rfl (by decide) _ _ _ rfl (owns_ext hown.out (by exact eX)) ⟨_,0,none⟩ 1 1 c.cells rfl rfl ?c1 ?c2 (by decide) ?c3 ?c4 ?c5 _ rfl ?_)
   case c1=>exact cells_new _ #[.string c.nm, .int .u8 c.ty, .bool c.key] _
   case c2=>intro u hu;simp [Col.cells] at hu;rcases hu with rfl|rfl|rfl<;>rfl
   case c3=>unfold maxLen;omega
   case c4=>omega
   case c5=>simp;omega
   intro g' cap' w2 hown' hgrow _ _
   have hE1:Ext wr (wr.drew.alloc (.cells #[.string c.nm, .int .u8 c.ty, .bool c.key] 117)):=by exact eX
   have HE2:Hid (Ext w w2):=Hm (Below.grown (hE.out.trans hE1) hgrow (hE.out.trans hE1).size (fun g hg=>by have:=(hown.out.lt g hg).1;omega))
   have hsz2:=hgrow.size
   have HB0' :=Hm ((HB0.out.ext hE1).grown hgrow (owns_ne hown.out (by omega)))
   have HB1' :=Hm ((HB1.out.ext hE1).grown hgrow (owns_ne hown.out (by omega)))
   have hB2' :=(HB2.out.ext hE1).grown hgrow hob
   have g2' :=hB2'.cell
   have g2f:=hB2'.frozen
   have z2' :=hB2'.lt
   have HB2' :=Hm hB2'
   have HO:=Hm hown'
   clear hB2' hown' hgrow hE1 hob
   go_wp2
   go_roundw
   case rel=>exact ⟨k+1,_,by omega,by go_num,Hm (by rw [hT.out];exact owns_set (p:=⟨w.heap.size+1+1,4,none⟩) HO.out (by show w.heap.size+1+1<_;omega) _),HB0'.out.other _ _ (by show w.heap.size≠w.heap.size+1+1;omega),HB1'.out.other _ _ (by show w.heap.size+1≠w.heap.size+1+1;omega),HB2'.out.set 4 _,Hm (HE2.out.setCell (by simp;omega) _)⟩
   case measure=>simp [intOf];omega
  ·have hkk:k=cols.length:=by omega
   subst hkk
   rw [show cols.length=(cols.map Col.cells).length by simp,List.take_length] at hown
   rw [List.length_map] at hown
   obtain ⟨a',c',rfl⟩:=owns_shape hown.out
   have g0:=hB0.cell
   have z0:=hB0.lt
   have g1:=hB1.cell
   have g1f:=hB1.frozen
   have g2:=hB2.cell
   have z1:=hB1.lt
   have z2:=hB2.lt
   clear hB0 hB1 hB2
   go_wp2
   simp [bodyPost,results,Tryz.results47,go_sem, *]
   refine ⟨_,_,⟨rfl,rfl⟩,owns_cap hown.out,owns_base (base:=w.heap.size+3) ?_ (by omega), ?_⟩
   ·have hown:=hown.out
    repeat (with_reducible (first|exact hown|refine owns_set ?_ (by show w.heap.size+1<_;omega) _))
   ·have hE:=hE.out
    exact eX
theorem right8_big (oid ver:Int) (nm:ByteArray) (id:Int) (cols:List Col) (a:Option Addr) (cap:Nat) (w:World) (hl:Sl w (.slice a cols.length cap) 3 (cols.map Col.cells)) (hcap:cols.length≤cap) (hlen:cols.length≤9223372036854775807)
 (hnm:nm.size≤9223372036854775807) (hcs:∀c∈cols,c.nm.size≤9223372036854775807):
 Calls Tryz.prog 75 #[.agg #[.int .u32 oid, .int .u32 ver, .string nm, .int .u8 id, .slice a cols.length cap]] w fun e w' =>e= .returned (.int .i64 (⟨oid,ver,nm,id,cols⟩:Rl).right)∧Ext w w' :=by
 have HN:=Hm (fun w=>named_any nm w hnm)
 have HK0:=Hm (fun (hn:cols.length≤1000) W (h:Ext w W)=>keyed_any oid ver nm id cols a cap W (hl.ext h) hn)
 have HL:=Hm hl
 have HCS:=Hm hcs
 clear hl hcs
 by_cases h1:oid=0
 ·have HR:=Hm (show (⟨oid,ver,nm,id,cols⟩:Rl).right=4 by unfold Rl.right;rw [if_pos (.inl h1)])
  have e1:(oid==0)=true:=by simpa using h1
  clear h1
  go_enter Tryz.func75,Tryz.ntmps75
  go_wp2
  go_ret
  exact ⟨ret_int HR.out.symm,by exact eX⟩
 have e1:(oid==0)=false:=by simpa using h1
 by_cases h2:ver=0
 ·have HR:=Hm (show (⟨oid,ver,nm,id,cols⟩:Rl).right=4 by unfold Rl.right;rw [if_pos (.inr h2)])
  have e2:(ver==0)=true:=by simpa using h2
  clear h2 h1
  go_enter Tryz.func75,Tryz.ntmps75
  go_wp2
  go_ret
  exact ⟨ret_int HR.out.symm,by exact eX⟩
 have e2:(ver==0)=false:=by simpa using h2
 cases h3:namedB nm with
 |false=>
  have HR:=Hm (show (⟨oid,ver,nm,id,cols⟩:Rl).right=3 by unfold Rl.right;rw [if_neg (by simp only;omega),if_pos h3])
  rw [h3] at HN
  clear h3 h2 h1
  go_enter Tryz.func75,Tryz.ntmps75
  go_wp2_with (go_at_call 99;refine (HN.out _).mono ?_;rintro e w1 ⟨rfl,rfl⟩)
  go_ret
  exact ⟨ret_int HR.out.symm,by exact eX⟩
 |true=>
 by_cases h4:2<id
 ·have HR:=Hm (show (⟨oid,ver,nm,id,cols⟩:Rl).right=7 by unfold Rl.right;rw [if_neg (by simp only;omega),if_neg (by simp only [h3];simp),if_pos h4])
  rw [h3] at HN
  clear h3 h2 h1
  go_enter Tryz.func75,Tryz.ntmps75
  go_wp2_with (go_at_call 99;refine (HN.out _).mono ?_;rintro e w1 ⟨rfl,rfl⟩)
  go_ret
  exact ⟨ret_int HR.out.symm,by exact eX⟩
 by_cases h5:cols.length<1
 ·have HR:=Hm (show (⟨oid,ver,nm,id,cols⟩:Rl).right=17 by unfold Rl.right;rw [if_neg (by simp only;omega),if_neg (by simp only [h3];simp),if_neg (by simp only;omega),if_pos (.inl h5)])
  have h4' :id≤2:=by omega
  rw [h3] at HN
  clear h3 h2 h1
  go_enter Tryz.func75,Tryz.ntmps75
  go_wp2_with (go_at_call 99;refine (HN.out _).mono ?_;rintro e w1 ⟨rfl,rfl⟩)
  go_ret
  exact ⟨ret_int HR.out.symm,by exact eX⟩
 by_cases h6:16<cols.length
 ·have HR:=Hm (show (⟨oid,ver,nm,id,cols⟩:Rl).right=17 by unfold Rl.right;rw [if_neg (by simp only;omega),if_neg (by simp only [h3];simp),if_neg (by simp only;omega),if_pos (.inr h6)])
  have h4' :id≤2:=by omega
  have h5' :1≤cols.length:=by omega
  rw [h3] at HN
  clear h3 h2 h1
  go_enter Tryz.func75,Tryz.ntmps75
  go_wp2_with (go_at_call 99;refine (HN.out _).mono ?_;rintro e w1 ⟨rfl,rfl⟩)
  go_ret
  exact ⟨ret_int HR.out.symm,by exact eX⟩
 have hlen:cols.length≤1000:=by omega
 have HK:=Hm (HK0.out hlen)
 clear HK0
 have HR:=Hm (Rl.right_cols (r:=(⟨oid,ver,nm,id,cols⟩:Rl)) h1 h2 h3 (by simp only;omega) (by simp only;omega) (by simp only;omega))
 simp only at HR
 rw [h3] at HN
 have h4' :id≤2:=by omega
 have h5' :1≤cols.length:=by omega
 have h6' :cols.length≤16:=by omega
 clear h3 h2 h1 h4 h5 h6
 go_enter Tryz.func75,Tryz.ntmps75
 go_wp2_with (go_at_call 99;refine (HN.out _).mono ?_;rintro e w1 ⟨rfl,rfl⟩)
 go_loopw [40] (fun i wr=>∃k:Nat,k≤cols.length∧i= .int .i64 k∧Hid (∀j,j<k→colAt cols j=0)∧Hid (Ext (w.alloc (.cells #[.int .u32 oid, .int .u32 ver, .string nm, .int .u8 id, .slice a cols.length cap] 120)) wr)) (fun i _=>cols.length - (intOf i).toNat)
 case atStart=>exact ⟨0,Nat.zero_le _,rfl,fun j h=>by omega,Ext.refl _⟩
 case round=>
  obtain ⟨k,hk,rfl,hrel,hE⟩:=hrel
  have hBx:=(Blk.new w #[.int .u32 oid, .int .u32 ver, .string nm, .int .u8 id, .slice a cols.length cap] 120).ext hE.out
  have g0:=hBx.cell
  have z0:=hBx.lt
  clear hBx
  by_cases hlt:k<cols.length
  ·obtain ⟨b,o,rfl,hb,hx⟩:=HL.out.at_ (i:=k) (by simpa using hlt)
   have hEw:Hid (Ext w wr):=Hm (((Ext.refl w).alloc _).trans hE.out)
   obtain ⟨f0,f1,f2⟩:=Col.at_ hlt hx hb hEw.out
   have hbw:b<wr.heap.size:=Nat.lt_of_lt_of_le hb hEw.out.size
   have HF:=Hm (fun W (h:Ext wr W)=>column_any cols[k] (cols.take k) (some ⟨b,o,none⟩) k cap W (by rw [List.length_take];omega) (by have:=(HL.out.ext (hEw.out.trans h)).take (i:=k) (by rw [List.length_map];omega);rwa [←List.map_take] at this) (by rw [List.length_take];omega) (HCS.out _ (List.getElem_mem hlt)))
   have hAt:=colAt_lt hlt
   have q1:(0:Int)≤(k:Int):=by omega
   have q2:(k:Int)≤(cap:Int):=by omega
   obtain ⟨E,hE0⟩:∃E,E=colE cols[k] (cols.take k):=⟨_,rfl⟩
   rw [←hE0] at HF hAt
   have HAt:=Hm hAt
   clear hx hAt hE0
   by_cases h0:E=0
   ·subst h0
    go_wp2
    go_region_held3 (fun w' =>Ext (wr.alloc (.cells #[.string cols[k].nm, .int .u8 cols[k].ty, .bool cols[k].key] 117)) w'∧(∀b o,b<(wr.alloc (.cells #[.string cols[k].nm, .int .u8 cols[k].ty, .bool cols[k].key] 117)).heap.size→w'.cell? ⟨b,o,none⟩=(wr.alloc (.cells #[.string cols[k].nm, .int .u8 cols[k].ty, .bool cols[k].key] 117)).cell? ⟨b,o,none⟩)∧(∀b o,b<(wr.alloc (.cells #[.string cols[k].nm, .int .u8 cols[k].ty, .bool cols[k].key] 117)).heap.size→w'.frozen? ⟨b,o,none⟩=(wr.alloc (.cells #[.string cols[k].nm, .int .u8 cols[k].ty, .bool cols[k].key] 117)).frozen? ⟨b,o,none⟩)) ((exact held_of (by exact eX)))
     (first
      |(go_at_call 100;refine (HF.out _ (by exact eX)).mono ?_;rintro e w2 ⟨rfl,hb2⟩))
    go_wp2
    go_roundw
    case rel=>exact ⟨k+1,by omega,by go_num,fun j hj=>by
     by_cases e:j=k
     ·subst e;exact HAt.out
     ·exact hrel.out j (by omega),Hm (hE.out.trans (by exact eX))⟩
    case measure=>simp [intOf];omega
   ·have h0' :(E !=0)=true:=by simpa using h0
    have HR2:=Hm (show (⟨oid,ver,nm,id,cols⟩:Rl).right=E by rw [HR.out,firstE_at hrel.out hlt (by rw [HAt.out];exact h0),HAt.out,if_pos h0])
    clear h0
    go_wp2
    go_region_held3 (fun w' =>Ext (wr.alloc (.cells #[.string cols[k].nm, .int .u8 cols[k].ty, .bool cols[k].key] 117)) w'∧(∀b o,b<(wr.alloc (.cells #[.string cols[k].nm, .int .u8 cols[k].ty, .bool cols[k].key] 117)).heap.size→w'.cell? ⟨b,o,none⟩=(wr.alloc (.cells #[.string cols[k].nm, .int .u8 cols[k].ty, .bool cols[k].key] 117)).cell? ⟨b,o,none⟩)∧(∀b o,b<(wr.alloc (.cells #[.string cols[k].nm, .int .u8 cols[k].ty, .bool cols[k].key] 117)).heap.size→w'.frozen? ⟨b,o,none⟩=(wr.alloc (.cells #[.string cols[k].nm, .int .u8 cols[k].ty, .bool cols[k].key] 117)).frozen? ⟨b,o,none⟩)) ((exact held_of (by exact eX)))
     (first
      |(go_at_call 100;refine (HF.out _ (by exact eX)).mono ?_;rintro e w2 ⟨rfl,hb2⟩))
    go_wp2
    go_ret
    exact ⟨ret_int HR2.out.symm,hEw.out.trans (by exact eX)⟩
  ·have hkk:k=cols.length:=by omega
   have hEw:Hid (Ext w wr):=Hm (((Ext.refl w).alloc _).trans hE.out)
   have HR2:=Hm (show (⟨oid,ver,nm,id,cols⟩:Rl).right=if id=1∧cols.any Col.key=false then 13 else 0 by rw [HR.out,firstE_zero (fun i hi=>hrel.out i (by omega)),if_neg (by simp)])
   subst hkk
   clear hrel HR
   by_cases h7:id=1
   ·subst h7
    cases h8:cols.any Col.key with
    |false=>
     rw [h8] at HK HR2
     clear h8
     go_wp2_with (go_at_call 101;refine (HK.out _ hEw.out).mono ?_;rintro e w2 ⟨rfl,hb2⟩)
     go_ret
     exact ⟨ret_int (by rw [HR2.out];simp),hEw.out.trans (by exact eX)⟩
    |true=>
     rw [h8] at HK HR2
     clear h8
     go_wp2_with (go_at_call 101;refine (HK.out _ hEw.out).mono ?_;rintro e w2 ⟨rfl,hb2⟩)
     go_ret
     exact ⟨ret_int (by rw [HR2.out];simp),hEw.out.trans (by exact eX)⟩
   ·have e7:(id==1)=false:=by simpa using h7
    have HR3:=Hm (HR2.out.trans (if_neg (fun h=>h7 h.1)))
    clear h7 HR2
    go_wp2
    go_ret
    exact ⟨ret_int HR3.out.symm,hEw.out⟩
structure EL where
 e:Ev
 ba:Option Addr
 bc:Nat
 aa:Option Addr
 ac:Nat
 ra:Option Addr
 rc:Nat
def EL.vals (x:EL):List Value:= [.int .u8 x.e.kind, .int .u32 x.e.ao, .int .u32 x.e.av, .int .u8 x.e.old, .slice x.ba x.e.b.length x.bc, .slice x.aa x.e.a.length x.ac, .slice x.ra x.e.rs.length x.rc, .int .u8 x.e.fl]
def EL.agg (x:EL):Value:= .agg #[.int .u8 x.e.kind, .int .u32 x.e.ao, .int .u32 x.e.av, .int .u8 x.e.old, .slice x.ba x.e.b.length x.bc, .slice x.aa x.e.a.length x.ac, .slice x.ra x.e.rs.length x.rc, .int .u8 x.e.fl]
abbrev Kr (n:Nat) (f:K→List Value) (W:World) (a:Option Addr) (c:Nat) (l:List K):Prop:=Sl W (.slice a l.length c) n (l.map f)
structure EL.at (n:Nat) (f:K→List Value) (W:World) (x:EL):Prop where
 b:Kr n f W x.ba x.bc x.e.b
 a:Kr n f W x.aa x.ac x.e.a
 r:Sl W (.slice x.ra x.e.rs.length x.rc) 2 (x.e.rs.map Rf.cells)
structure EL.on (S:Nat→Prop) (x:EL):Prop where
 b:x.e.b≠ []→∀b o,x.ba=some ⟨b,o,none⟩→S b
 a:x.e.a≠ []→∀b o,x.aa=some ⟨b,o,none⟩→S b
 r:x.e.rs≠ []→∀b o,x.ra=some ⟨b,o,none⟩→S b
theorem map_ne {α β:Type} {f:α→β} {l:List α} (h:l.map f≠ []):l≠ []:=fun e=>h (by rw [e];rfl)
theorem Sl.lt {W:World} {b n c k:Nat} {xss:List (List Value)} {o' :Nat} (h:Sl W (.slice (some ⟨b,o',none⟩) n c) k xss) (h0:xss≠ []):b<W.heap.size:=by
 obtain ⟨b2,o2,e,hb, -⟩:=h.at_ (i:=0) (List.length_pos_iff.2 h0)
 simp only [Option.some.injEq,Addr.mk.injEq] at e
 rw [e.1];exact hb
section
variable {S T : Nat → Prop} {n : Nat} {f : K → List Value} {W W' : World} {x : EL}
theorem EL.at.ext (h:x.at n f W) (he:Ext W W'):x.at n f W' :=⟨h.b.ext he,h.a.ext he,h.r.ext he⟩
theorem EL.at.lt (h:x.at n f W):x.on (fun b=>b<W.heap.size):=
 ⟨fun h0 b o e=>Sl.lt (by have:=h.b;unfold Kr at this;rw [e] at this;exact this) (fun q=>h0 (by simpa using q)),fun h0 b o e=>Sl.lt (by have:=h.a;unfold Kr at this;rw [e] at this;exact this) (fun q=>h0 (by simpa using q)),fun h0 b o e=>Sl.lt (by have:=h.r;rw [e] at this;exact this) (fun q=>h0 (by simpa using q))⟩
end
theorem EL.at_ {w wr:World} {b o:Nat} {l:List EL} {k:Nat} (hk:k<l.length) (hc:∀j,j<8→w.cell? ⟨b,o+k*8+j,none⟩=((l.map EL.vals).getD k [])[j]?) (hb:b<w.heap.size) (hE:Ext w wr):
 wr.cell? ⟨b,o+k*8,none⟩=some (.int .u8 l[k].e.kind)∧wr.cell? ⟨b,o+k*8+1,none⟩=some (.int .u32 l[k].e.ao)∧wr.cell? ⟨b,o+k*8+2,none⟩=some (.int .u32 l[k].e.av)∧wr.cell? ⟨b,o+k*8+3,none⟩=some (.int .u8 l[k].e.old)∧
  wr.cell? ⟨b,o+k*8+4,none⟩=some (.slice l[k].ba l[k].e.b.length l[k].bc)∧wr.cell? ⟨b,o+k*8+5,none⟩=some (.slice l[k].aa l[k].e.a.length l[k].ac)∧wr.cell? ⟨b,o+k*8+6,none⟩=some (.slice l[k].ra l[k].e.rs.length l[k].rc)∧wr.cell? ⟨b,o+k*8+7,none⟩=some (.int .u8 l[k].e.fl):=by
 rw [getD_map EL.vals l hk] at hc
 have c:=hE.cells.1 b
 exact ⟨(c _ hb).trans (hc 0 (by omega)),(c _ hb).trans (hc 1 (by omega)),(c _ hb).trans (hc 2 (by omega)),(c _ hb).trans (hc 3 (by omega)),(c _ hb).trans (hc 4 (by omega)),(c _ hb).trans (hc 5 (by omega)),(c _ hb).trans (hc 6 (by omega)),(c _ hb).trans (hc 7 (by omega))⟩
structure ES (n:Nat) (f:K→List Value) (W:World) (v:Value) (xs:List EL):Prop where
 row:Sl W v 8 (xs.map EL.vals)
 sl:∀x∈xs,x.at n f W
section
variable {S T : Nat → Prop} {n : Nat} {f : K → List Value} {W W' : World} {xs : List EL} {v : Value}
end
section
variable {S : Nat → Prop} {n : Nat} {f : K → List Value} {T : TypeId} {W W' : World} {N : Nat} {es : List Ev} {v v' : Value} {qs : List EL} {q : EL}
end
theorem run_equalIn_slice_nil4 {P:Program} (w:World) (d:Nat) (t e:TypeId) (a:Option Addr) (l c:Nat) (h:P.underlying t=some (.slice e)):(Op.equalIn (d+1) t (.slice a l c) (.slice none 0 0)).run P w= .ok a.isNone w:=by
 cases a<;>simp [Op.equalIn,run_underlying h]
@[go_sem] theorem run_eql_slice_nil4 {P:Program} (w:World) (t e:TypeId) (a:Option Addr) (l c:Nat) (h:P.underlying t=some (.slice e)):(binOp .eql t (.slice a l c) (.slice none 0 0)).run P w= .ok (.bool a.isNone) w:=by
 have e:(Op.equal t (.slice a l c) (.slice none 0 0)).run P w= .ok a.isNone w:=by
  exact run_equalIn_slice_nil4 w 9999 t e a l c h
 simp [binOp,e]
theorem flatC_len (l:List Col):(l.map Col.cells).flatten.length=l.length*3:=by
 have:=flat_length 3 (l.map Col.cells) (fun xs hxs=>by simp at hxs;obtain ⟨c,_,rfl⟩:=hxs;rfl)
 rwa [List.length_map] at this
theorem news_col {w:World} {b o:Nat} {l:List Col} (h:∀i,i<l.length→∀j,j<3→w.cell? ⟨b,o+i*3+j,none⟩=((l.map Col.cells).getD i [])[j]?):∀j u,((l.map Col.cells).flatten)[j]? =some u→w.cell? ((⟨b,o,none⟩:Addr).add j)=some u:=by
 intro j u hj
 have hjl:j<l.length*3:=by
  rcases Nat.lt_or_ge j (l.length*3) with h|h
  ·exact h
  ·rw [List.getElem?_eq_none (by rw [flatC_len];exact h)] at hj;cases hj
 have hplain:(⟨b,o,none⟩:Addr).add j=⟨b,o+j,none⟩:=by unfold Addr.add;split<;>simp_all
 have hi:j / 3<l.length:=by omega
 have hq:=flat_get 3 (l.map Col.cells) (fun xs hxs=>by simp at hxs;obtain ⟨c,_,rfl⟩:=hxs;rfl) (j / 3) (by simpa using hi) (j%3) (Nat.mod_lt _ (by decide))
 have hm:j / 3*3+j%3=j:=by omega
 rw [hm] at hq
 rw [hplain,←hj,hq,←h (j / 3) hi (j%3) (Nat.mod_lt _ (by decide)),Nat.add_assoc,hm]
theorem clonec_any (l:List Col) (a:Option Addr) (cap:Nat) (w:World) (hl:Sl w (.slice a l.length cap) 3 (l.map Col.cells)) (hlen:l.length≤1000):
 Calls Tryz.prog 107 #[.slice a l.length cap] w fun e w' =>∃a' cap',e= .returned (.slice a' l.length cap')∧w'.ownsRow w.heap.size 117 3 (.slice a' l.length cap') l.length ((l.map Col.cells).flatten)∧Ext w w' :=by
 obtain ⟨i0,hi,hz0,hz1,hz2⟩:=info_parts Tryz.infoCol
 have HL:=Hm hl
 clear hl
 cases a with
 |none=>
  have h0:l= []:=by
   obtain ⟨a,c,hv,h⟩:=HL.out
   simp only [Value.slice.injEq] at hv
   rcases h with h|⟨b,o,ha,_⟩
   ·simpa using h
   ·rw [←hv.1] at ha;cases ha
  obtain ⟨a,c,hv, -⟩:=HL.out
  subst h0
  clear HL hv
  go_enter Tryz.func107,Tryz.ntmps107
  go_wp2
  go_ret
  exact ⟨_,_,rfl,World.ownsRow_nil _ _ _ _,by exact eX⟩
 |some ad=>
  have hnews:∀j u,((l.map Col.cells).flatten)[j]? =some u→(w.alloc (.cells #[] 117)).cell? (ad.add j)=some u:=by
   obtain ⟨a,c,hv,h⟩:=HL.out
   simp only [Value.slice.injEq] at hv
   obtain ⟨rfl, -, -⟩:=hv
   rcases h with h|⟨b,o,ha,hb,hc⟩
   ·have h0:l= []:=by simpa using h
    subst h0;intro j u hj;simp at hj
   ·cases ha
    refine news_col fun i hi j hj=> ?_
    have hE:Ext w (w.alloc (.cells #[] 117)):=(Ext.refl w).alloc _
    rw [hE.cells.1 b _ hb]
    exact hc i (by simpa using hi) j hj
  have HN:=Hm hnews
  clear HL hnews
  go_enter Tryz.func107,Tryz.ntmps107
  go_wp2_with (at_builtin;refine wpList_append_own _ rfl _ _ 118 rfl w.heap.size 117 i0 _ 3 24 Tryz.underlying118 hi hz0 hz1 hz2 rfl (by decide) (.slice (some ⟨w.heap.size,0,none⟩) 0 0) 0 [] rfl ?c0 _ l.length _ ((l.map Col.cells).flatten) rfl (flatC_len l) HN.out ?c2 ?c3 ?c4 ?c5 ?_)
  case c0=>exact ⟨rfl, .inr ⟨_,0, #[],rfl,Nat.le_refl _,Blk.new w #[] _,Nat.le_refl _,Nat.zero_le _,rfl,rfl⟩⟩
  case c2=>intro u hu;rw [List.mem_flatten] at hu;obtain ⟨xs,hxs,hu⟩:=hu;rw [List.mem_map] at hxs;obtain ⟨c,_,rfl⟩:=hxs;simp [Col.cells] at hu;rcases hu with rfl|rfl|rfl<;>rfl
  case c3=>unfold maxLen;omega
  case c4=>omega
  case c5=>simp
  intro v' w2 hown hgrow _
  have hown:w2.ownsRow w.heap.size 117 3 v' l.length ((l.map Col.cells).flatten):=by simpa using hown
  have hE2:Ext w w2:=((Ext.refl w).alloc (.cells #[] 117)).grown (v:= .slice (some ⟨w.heap.size,0,none⟩) 0 0) (e:=117) (size:=3) (n:=0) (xs:= []) ⟨rfl, .inr ⟨_,0, #[],rfl,Nat.le_refl _,Blk.new w #[] _,Nat.le_refl _,Nat.zero_le _,rfl,rfl⟩⟩ hgrow
  obtain ⟨a',c',rfl⟩:=owns_shape hown
  have HO:=Hm hown
  have HE2:=Hm hE2
  clear hown hE2 hgrow
  go_wp2
  go_ret
  exact ⟨a',c',rfl,HO.out,HE2.out⟩
theorem Tryz.infoRfQ:(Tryz.prog.info? 34).map (fun i=>(i.zero,i.size,i.bytes))=some (some (.agg #[.int .u32 0, .int .u32 0]),2,8):=by kernel_rfl
noncomputable def rfB (c d:Rf):Bool:= @decide (c=d) (Classical.propDecidable _)
noncomputable def rfsB (l m:List Rf):Bool:= @decide (l=m) (Classical.propDecidable _)
noncomputable def evB (l m:Ev):Bool:= @decide (l=m) (Classical.propDecidable _)
theorem rfB_true {c d:Rf} :rfB c d=true↔c=d:=by unfold rfB;simp
theorem rfB_false {c d:Rf} :rfB c d=false↔c≠d:=by unfold rfB;simp
theorem rfsB_true {l m:List Rf} :rfsB l m=true↔l=m:=by unfold rfsB;simp
theorem rfsB_false {l m:List Rf} :rfsB l m=false↔l≠m:=by unfold rfsB;simp
theorem evB_true {l m:Ev} :evB l m=true↔l=m:=by unfold evB;simp
theorem evB_false {l m:Ev} :evB l m=false↔l≠m:=by unfold evB;simp
theorem rfB_eq (a b c d:Int):rfB ⟨a,b⟩ ⟨c,d⟩=decide (a=c∧b=d):=by
 unfold rfB
 by_cases h:a=c∧b=d
 ·rw [decide_eq_true h];obtain ⟨rfl,rfl⟩:=h;simp
 ·rw [decide_eq_false h];simp only [Rf.mk.injEq];rw [decide_eq_false_iff_not];exact h
theorem neq_pref (a b c d:Int) (w:World):(binOp .neq 34 (.agg #[.int .u32 a, .int .u32 b]) (.agg #[.int .u32 c, .int .u32 d])).run Tryz.prog w= .ok (.bool (!rfB ⟨a,b⟩ ⟨c,d⟩)) w:=by
 rw [rfB_eq]
 by_cases h0:a=c<;>by_cases h1:b=d<;>simp [go_sem,h0,h1]
theorem eql_pref (a b c d:Int) (w:World):(binOp .eql 34 (.agg #[.int .u32 a, .int .u32 b]) (.agg #[.int .u32 c, .int .u32 d])).run Tryz.prog w= .ok (.bool (rfB ⟨a,b⟩ ⟨c,d⟩)) w:=by
 rw [rfB_eq]
 by_cases h0:a=c<;>by_cases h1:b=d<;>simp [go_sem,h0,h1]
theorem neq_rref (a b c d:Int) (w:World):(binOp .neq 46 (.agg #[.int .u32 a, .int .u32 b]) (.agg #[.int .u32 c, .int .u32 d])).run Tryz.prog w= .ok (.bool (!rfB ⟨a,b⟩ ⟨c,d⟩)) w:=by
 rw [rfB_eq]
 by_cases h0:a=c<;>by_cases h1:b=d<;>simp [go_sem,h0,h1]
theorem eqrefs_any (l m:List Rf) (a b:Option Addr) (ca cb:Nat) (w:World) (hl:Sl w (.slice a l.length ca) 2 (l.map Rf.cells)) (hm:Sl w (.slice b m.length cb) 2 (m.map Rf.cells)) (hlen:l.length≤100000):
 Calls Tryz.prog 161 #[.slice a l.length ca, .slice b m.length cb] w fun e w' =>e= .returned (.bool (rfsB l m))∧Ext w w' :=by
 have HL:=Hm hl
 have HM:=Hm hm
 clear hl hm
 by_cases hn:l.length=m.length
 case neg=>
  have hn' :(((l.length:Nat):Int) !=((m.length:Nat):Int))=true:=by simp;omega
  have HR:=Hm (show rfsB l m=false from rfsB_false.2 (fun h=>hn (by rw [h])))
  clear hn
  go_enter Tryz.func161,Tryz.ntmps161
  go_wp2
  go_ret
  exact ⟨ret_bool HR.out.symm,by exact eX⟩
 have hn' :(((l.length:Nat):Int) !=((m.length:Nat):Int))=false:=by simp;omega
 have HN:=Hm hn
 clear hn
 go_enter Tryz.func161,Tryz.ntmps161
 go_wp2
 go_loopw [13] (fun i wr=>∃k:Nat,k≤l.length∧i= .int .i64 k∧Hid (∀j (h1:j<l.length) (h2:j<m.length),j<k→l[j]=m[j])∧Hid (Ext w wr)) (fun i _=>l.length - (intOf i).toNat)
 case atStart=>exact ⟨0,Nat.zero_le _,rfl,fun j _ _ h=>by omega,Ext.refl _⟩
 case round=>
  obtain ⟨k,hk,rfl,hrel,hE⟩:=hrel
  by_cases hlt:k<l.length
  ·have hlt2:k<m.length:=by have:=HN.out;omega
   obtain ⟨b1,o1,rfl,hb1,hx1⟩:=HL.out.at_ (i:=k) (by simpa using hlt)
   obtain ⟨f0,f1⟩:=Rf.at_ hlt hx1 hb1 hE.out
   obtain ⟨b2,o2,rfl,hb2,hx2⟩:=HM.out.at_ (i:=k) (by simpa using hlt2)
   obtain ⟨p0,p1⟩:=Rf.at_ hlt2 hx2 hb2 hE.out
   have hbw:b1<wr.heap.size:=Nat.lt_of_lt_of_le hb1 hE.out.size
   have hbw2:b2<wr.heap.size:=Nat.lt_of_lt_of_le hb2 hE.out.size
   have hNq:=fun w=>neq_pref l[k].o l[k].v m[k].o m[k].v w
   cases hA:rfB ⟨l[k].o,l[k].v⟩ ⟨m[k].o,m[k].v⟩ with
   |true=>
    rw [hA] at hNq
    have HA:=Hm (rfB_true.1 hA)
    clear hA hx1 hx2
    go_wp2
    go_region_held3 (fun w' =>Ext (wr) w'∧(∀b o,b<(wr).heap.size→w'.cell? ⟨b,o,none⟩=(wr).cell? ⟨b,o,none⟩)∧(∀b o,b<(wr).heap.size→w'.frozen? ⟨b,o,none⟩=(wr).frozen? ⟨b,o,none⟩)) ((exact held_of (by exact eX))) (fail)
    go_wp2
    go_roundw
    case rel=>exact ⟨k+1,by omega,by go_num,fun j h1 h2 hjk=>by
     by_cases e:j=k
     ·subst e;exact HA.out
     ·exact hrel.out j h1 h2 (by omega),Hm (hE.out.trans (by exact eX))⟩
    case measure=>simp [intOf];omega
   |false=>
    rw [hA] at hNq
    have HR:=Hm (show rfsB l m=false from rfsB_false.2 (fun h=>rfB_false.1 hA (by subst h;rfl)))
    clear hA hx1 hx2
    go_wp2
    go_region_held3 (fun w' =>Ext (wr) w'∧(∀b o,b<(wr).heap.size→w'.cell? ⟨b,o,none⟩=(wr).cell? ⟨b,o,none⟩)∧(∀b o,b<(wr).heap.size→w'.frozen? ⟨b,o,none⟩=(wr).frozen? ⟨b,o,none⟩)) ((exact held_of (by exact eX))) (fail)
    go_wp2
    go_ret
    exact ⟨ret_bool HR.out.symm,hE.out.trans (by exact eX)⟩
  ·have hkk:k=l.length:=by omega
   have HR:=Hm (show rfsB l m=true from rfsB_true.2 (List.ext_getElem HN.out (fun i h1 h2=>hrel.out i h1 h2 (by omega))))
   subst hkk
   go_wp2
   go_ret
   exact ⟨ret_bool HR.out.symm,hE.out⟩
theorem flatR_len (l:List Rf):(l.map Rf.cells).flatten.length=l.length*2:=by
 have:=flat_length 2 (l.map Rf.cells) (fun xs hxs=>by simp at hxs;obtain ⟨c,_,rfl⟩:=hxs;rfl)
 rwa [List.length_map] at this
theorem news_ref {w:World} {b o:Nat} {l:List Rf} (h:∀i,i<l.length→∀j,j<2→w.cell? ⟨b,o+i*2+j,none⟩=((l.map Rf.cells).getD i [])[j]?):∀j u,((l.map Rf.cells).flatten)[j]? =some u→w.cell? ((⟨b,o,none⟩:Addr).add j)=some u:=by
 intro j u hj
 have hjl:j<l.length*2:=by
  rcases Nat.lt_or_ge j (l.length*2) with h|h
  ·exact h
  ·rw [List.getElem?_eq_none (by rw [flatR_len];exact h)] at hj;cases hj
 have hplain:(⟨b,o,none⟩:Addr).add j=⟨b,o+j,none⟩:=by unfold Addr.add;split<;>simp_all
 have hi:j / 2<l.length:=by omega
 have hq:=flat_get 2 (l.map Rf.cells) (fun xs hxs=>by simp at hxs;obtain ⟨c,_,rfl⟩:=hxs;rfl) (j / 2) (by simpa using hi) (j%2) (Nat.mod_lt _ (by decide))
 have hm:j / 2*2+j%2=j:=by omega
 rw [hm] at hq
 rw [hplain,←hj,hq,←h (j / 2) hi (j%2) (Nat.mod_lt _ (by decide)),Nat.add_assoc,hm]
theorem clonef_any (l:List Rf) (a:Option Addr) (cap:Nat) (w:World) (hl:Sl w (.slice a l.length cap) 2 (l.map Rf.cells)) (hlen:l.length≤1000):
 Calls Tryz.prog 67 #[.slice a l.length cap] w fun e w' =>∃a' cap',e= .returned (.slice a' l.length cap')∧w'.ownsRow w.heap.size 34 2 (.slice a' l.length cap') l.length ((l.map Rf.cells).flatten)∧Ext w w' :=by
 obtain ⟨i0,hi,hz0,hz1,hz2⟩:=info_parts Tryz.infoRfQ
 have HL:=Hm hl
 clear hl
 cases a with
 |none=>
  have h0:l= []:=by
   obtain ⟨a,c,hv,h⟩:=HL.out
   simp only [Value.slice.injEq] at hv
   rcases h with h|⟨b,o,ha,_⟩
   ·simpa using h
   ·rw [←hv.1] at ha;cases ha
  obtain ⟨a,c,hv, -⟩:=HL.out
  subst h0
  clear HL hv
  go_enter Tryz.func67,Tryz.ntmps67
  go_wp2
  go_ret
  exact ⟨_,_,rfl,World.ownsRow_nil _ _ _ _,by exact eX⟩
 |some ad=>
  have hnews:∀j u,((l.map Rf.cells).flatten)[j]? =some u→(w.alloc (.cells #[] 34)).cell? (ad.add j)=some u:=by
   obtain ⟨a,c,hv,h⟩:=HL.out
   simp only [Value.slice.injEq] at hv
   obtain ⟨rfl, -, -⟩:=hv
   rcases h with h|⟨b,o,ha,hb,hc⟩
   ·have h0:l= []:=by simpa using h
    subst h0;intro j u hj;simp at hj
   ·cases ha
    refine news_ref fun i hi j hj=> ?_
    have hE:Ext w (w.alloc (.cells #[] 34)):=(Ext.refl w).alloc _
    rw [hE.cells.1 b _ hb]
    exact hc i (by simpa using hi) j hj
  have HN:=Hm hnews
  clear HL hnews
  go_enter Tryz.func67,Tryz.ntmps67
  go_wp2_with (at_builtin;refine wpList_append_own _ rfl _ _ 37 rfl w.heap.size 34 i0 _ 2 8 Tryz.underlying37 hi hz0 hz1 hz2 rfl (by decide) (.slice (some ⟨w.heap.size,0,none⟩) 0 0) 0 [] rfl ?c0 _ l.length _ ((l.map Rf.cells).flatten) rfl (flatR_len l) HN.out ?c2 ?c3 ?c4 ?c5 ?_)
  case c0=>exact ⟨rfl, .inr ⟨_,0, #[],rfl,Nat.le_refl _,Blk.new w #[] _,Nat.le_refl _,Nat.zero_le _,rfl,rfl⟩⟩
  case c2=>intro u hu;rw [List.mem_flatten] at hu;obtain ⟨xs,hxs,hu⟩:=hu;rw [List.mem_map] at hxs;obtain ⟨c,_,rfl⟩:=hxs;simp [Rf.cells] at hu;rcases hu with rfl|rfl<;>rfl
  case c3=>unfold maxLen;omega
  case c4=>omega
  case c5=>simp
  intro v' w2 hown hgrow _
  have hown:w2.ownsRow w.heap.size 34 2 v' l.length ((l.map Rf.cells).flatten):=by simpa using hown
  have hE2:Ext w w2:=((Ext.refl w).alloc (.cells #[] 34)).grown (v:= .slice (some ⟨w.heap.size,0,none⟩) 0 0) (e:=34) (size:=2) (n:=0) (xs:= []) ⟨rfl, .inr ⟨_,0, #[],rfl,Nat.le_refl _,Blk.new w #[] _,Nat.le_refl _,Nat.zero_le _,rfl,rfl⟩⟩ hgrow
  obtain ⟨a',c',rfl⟩:=owns_shape hown
  have HO:=Hm hown
  have HE2:=Hm hE2
  clear hown hE2 hgrow
  go_wp2
  go_ret
  exact ⟨a',c',rfl,HO.out,HE2.out⟩
structure Ev.small (e:Ev):Prop where
 b:e.b.length≤1000
 a:e.a.length≤1000
 r:e.rs.length≤1000
theorem ealike_any (x y:EL) (w:World) (hx:x.at 5 K.pc w) (hy:y.at 5 K.pc w) (h1:x.e.small) (h2:y.e.small):
 Calls Tryz.prog 124 #[x.agg,y.agg] w fun e w' =>e= .returned (.bool (evB x.e y.e))∧Ext w w' :=by
 obtain ⟨⟨k1,ao1,av1,old1,b1,a1,r1,fl1⟩,ba1,bc1,aa1,ac1,ra1,rc1⟩:=x
 obtain ⟨⟨k2,ao2,av2,old2,b2,a2,r2,fl2⟩,ba2,bc2,aa2,ac2,ra2,rc2⟩:=y
 unfold EL.agg
 simp only
 have HB:=Hm (fun W (h:Ext w W)=>alike_any b1 b2 ba1 ba2 bc1 bc2 W (hx.b.ext h) (hy.b.ext h) h1.b h2.b)
 have HA:=Hm (fun W (h:Ext w W)=>alike_any a1 a2 aa1 aa2 ac1 ac2 W (hx.a.ext h) (hy.a.ext h) h1.a h2.a)
 have HF:=Hm (fun W (h:Ext w W)=>eqrefs_any r1 r2 ra1 ra2 rc1 rc2 W (hx.r.ext h) (hy.r.ext h) (by have:=h1.r;simp only at this;omega))
 clear hx hy h1 h2
 by_cases q1:k1=k2
 case neg=>
  have HR:=Hm (show evB (⟨k1,ao1,av1,old1,b1,a1,r1,fl1⟩:Ev) (⟨k2,ao2,av2,old2,b2,a2,r2,fl2⟩:Ev)=false from evB_false.2 (fun h=>by injection h;contradiction))
  have q1' :(k1==k2)=false:=by simpa using q1
  clear q1
  go_enter Tryz.func124,Tryz.ntmps124
  go_wp2
  go_ret
  exact ⟨ret_bool HR.out.symm,by exact eX⟩
 by_cases q2:rfB ⟨ao1,av1⟩ ⟨ao2,av2⟩=true
 case neg=>
  have HR:=Hm (show evB (⟨k1,ao1,av1,old1,b1,a1,r1,fl1⟩:Ev) (⟨k2,ao2,av2,old2,b2,a2,r2,fl2⟩:Ev)=false from evB_false.2 (fun h=>by injection h with _ e1 e2;exact q2 (rfB_true.2 (by rw [e1,e2]))))
  have q2' :rfB ⟨ao1,av1⟩ ⟨ao2,av2⟩=false:=by simpa using q2
  have hQ:=fun w=>eql_pref ao1 av1 ao2 av2 w
  rw [q2'] at hQ
  clear q2 q2'
  subst q1
  go_enter Tryz.func124,Tryz.ntmps124
  go_wp2
  go_ret
  exact ⟨ret_bool HR.out.symm,by exact eX⟩
 have q2e:=rfB_true.1 q2
 injection q2e with q3 q4
 clear q2
 subst q1 q3 q4
 by_cases q5:old1=old2
 case neg=>
  have HR:=Hm (show evB (⟨k1,ao1,av1,old1,b1,a1,r1,fl1⟩:Ev) (⟨k1,ao1,av1,old2,b2,a2,r2,fl2⟩:Ev)=false from evB_false.2 (fun h=>by injection h;contradiction))
  have q5' :(old1==old2)=false:=by simpa using q5
  clear q5
  go_enter Tryz.func124,Tryz.ntmps124
  go_wp2
  go_ret
  exact ⟨ret_bool HR.out.symm,by exact eX⟩
 subst q5
 by_cases q6:fl1=fl2
 case neg=>
  have HR:=Hm (show evB (⟨k1,ao1,av1,old1,b1,a1,r1,fl1⟩:Ev) (⟨k1,ao1,av1,old1,b2,a2,r2,fl2⟩:Ev)=false from evB_false.2 (fun h=>by injection h;contradiction))
  have q6' :(fl1==fl2)=false:=by simpa using q6
  clear q6
  go_enter Tryz.func124,Tryz.ntmps124
  go_wp2
  go_ret
  exact ⟨ret_bool HR.out.symm,by exact eX⟩
 subst q6
 cases hb:rowB b1 b2 with
 |false=>
  have HR:=Hm (show evB (⟨k1,ao1,av1,old1,b1,a1,r1,fl1⟩:Ev) (⟨k1,ao1,av1,old1,b2,a2,r2,fl1⟩:Ev)=false from evB_false.2 (fun h=>by injection h with _ _ _ _ e1;exact rowB_false.1 hb e1))
  rw [hb] at HB
  clear hb
  go_enter Tryz.func124,Tryz.ntmps124
  go_wp2_with (go_at_call 130;refine (HB.out _ (by exact eX)).mono ?_;rintro e w2 ⟨rfl,hb2⟩)
  go_ret
  exact ⟨ret_bool HR.out.symm,by exact eX⟩
 |true=>
 obtain rfl:=rowB_true.1 hb
 rw [hb] at HB
 clear hb
 cases ha:rowB a1 a2 with
 |false=>
  have HR:=Hm (show evB (⟨k1,ao1,av1,old1,b1,a1,r1,fl1⟩:Ev) (⟨k1,ao1,av1,old1,b1,a2,r2,fl1⟩:Ev)=false from evB_false.2 (fun h=>by injection h with _ _ _ _ _ e1;exact rowB_false.1 ha e1))
  rw [ha] at HA
  clear ha
  go_enter Tryz.func124,Tryz.ntmps124
  go_wp2_with (first
   |(go_at_call_of 130 (Value.slice ba1 b1.length bc1);(with_reducible refine (HB.out _ (by exact eX)).mono ?_);rintro e w2 ⟨rfl,hb2⟩;have hE_w2:Ext ((w.alloc (.cells #[.int .u8 k1, .int .u32 ao1, .int .u32 av1, .int .u8 old1, .slice ba1 b1.length bc1, .slice aa1 a1.length ac1, .slice ra1 r1.length rc1, .int .u8 fl1] 39)).alloc (.cells #[.int .u8 k1, .int .u32 ao1, .int .u32 av1, .int .u8 old1, .slice ba2 b1.length bc2, .slice aa2 a2.length ac2, .slice ra2 r2.length rc2, .int .u8 fl1] 39)) w2:=(by exact eX);obtain ⟨hc_w2,hf_w2⟩:=hE_w2.cells;have hz_w2:=hE_w2.size)
   |(go_at_call_of 130 (Value.slice aa1 a1.length ac1);refine (HA.out _ (by exact eX)).mono ?_;rintro e w3 ⟨rfl,hb3⟩))
  go_ret
  exact ⟨ret_bool HR.out.symm,by exact eX⟩
 |true=>
 obtain rfl:=rowB_true.1 ha
 rw [ha] at HA
 clear ha
 have HR:=Hm (show evB (⟨k1,ao1,av1,old1,b1,a1,r1,fl1⟩:Ev) (⟨k1,ao1,av1,old1,b1,a1,r2,fl1⟩:Ev)=rfsB r1 r2 from by
  unfold evB rfsB
  exact decide_eq_decide.2 (by simp only [Ev.mk.injEq,true_and,and_true]))
 generalize rfsB r1 r2=B at HF HR
 go_enter Tryz.func124,Tryz.ntmps124
 go_wp2_with (first
  |(go_at_call_of 130 (Value.slice ba1 b1.length bc1);(with_reducible refine (HB.out _ (by exact eX)).mono ?_);rintro e w2 ⟨rfl,hb2⟩;have hE_w2:Ext ((w.alloc (.cells #[.int .u8 k1, .int .u32 ao1, .int .u32 av1, .int .u8 old1, .slice ba1 b1.length bc1, .slice aa1 a1.length ac1, .slice ra1 r1.length rc1, .int .u8 fl1] 39)).alloc (.cells #[.int .u8 k1, .int .u32 ao1, .int .u32 av1, .int .u8 old1, .slice ba2 b1.length bc2, .slice aa2 a1.length ac2, .slice ra2 r2.length rc2, .int .u8 fl1] 39)) w2:=(by exact eX);obtain ⟨hc_w2,hf_w2⟩:=hE_w2.cells;have hz_w2:=hE_w2.size)
  |(go_at_call_of 130 (Value.slice aa1 a1.length ac1);(with_reducible refine (HA.out _ (by exact eX)).mono ?_);rintro e w3 ⟨rfl,hb3⟩;have hE_w3:Ext ((w.alloc (.cells #[.int .u8 k1, .int .u32 ao1, .int .u32 av1, .int .u8 old1, .slice ba1 b1.length bc1, .slice aa1 a1.length ac1, .slice ra1 r1.length rc1, .int .u8 fl1] 39)).alloc (.cells #[.int .u8 k1, .int .u32 ao1, .int .u32 av1, .int .u8 old1, .slice ba2 b1.length bc2, .slice aa2 a1.length ac2, .slice ra2 r2.length rc2, .int .u8 fl1] 39)) w3:=(by exact eX);obtain ⟨hc_w3,hf_w3⟩:=hE_w3.cells;have hz_w3:=hE_w3.size)
  |(go_at_call 161;refine (HF.out _ (by exact eX)).mono ?_;rintro e w4 ⟨rfl,hb4⟩))
 go_ret
 exact ⟨ret_bool HR.out.symm,by exact eX⟩
theorem esame_any (x y:EL) (w:World) (hx:x.at 6 K.rc w) (hy:y.at 6 K.rc w) (h1:x.e.small) (h2:y.e.small):
 Calls Tryz.prog 9 #[x.agg,y.agg] w fun e w' =>e= .returned (.bool (evB x.e y.e))∧Ext w w' :=by
 obtain ⟨⟨k1,ao1,av1,old1,b1,a1,r1,fl1⟩,ba1,bc1,aa1,ac1,ra1,rc1⟩:=x
 obtain ⟨⟨k2,ao2,av2,old2,b2,a2,r2,fl2⟩,ba2,bc2,aa2,ac2,ra2,rc2⟩:=y
 unfold EL.agg
 simp only
 have HB:=Hm (fun W (h:Ext w W)=>rsame_any b1 b2 ba1 ba2 bc1 bc2 W (hx.b.ext h) (hy.b.ext h) h1.b h2.b)
 have HA:=Hm (fun W (h:Ext w W)=>rsame_any a1 a2 aa1 aa2 ac1 ac2 W (hx.a.ext h) (hy.a.ext h) h1.a h2.a)
 have HL:=Hm hx.r
 have HM:=Hm hy.r
 have hlen:=h1.r
 simp only at hlen HL HM
 clear hx hy h1 h2
 by_cases q1:k1=k2
 case neg=>
  have HR:=Hm (show evB (⟨k1,ao1,av1,old1,b1,a1,r1,fl1⟩:Ev) (⟨k2,ao2,av2,old2,b2,a2,r2,fl2⟩:Ev)=false from evB_false.2 (fun h=>by injection h;contradiction))
  have q1' :(k1 !=k2)=true:=by simpa using q1
  clear q1
  go_enter Tryz.func9,Tryz.ntmps9
  go_wp2
  go_ret
  exact ⟨ret_bool HR.out.symm,by exact eX⟩
 by_cases q2:rfB ⟨ao1,av1⟩ ⟨ao2,av2⟩=true
 case neg=>
  have HR:=Hm (show evB (⟨k1,ao1,av1,old1,b1,a1,r1,fl1⟩:Ev) (⟨k2,ao2,av2,old2,b2,a2,r2,fl2⟩:Ev)=false from evB_false.2 (fun h=>by injection h with _ e1 e2;exact q2 (rfB_true.2 (by rw [e1,e2]))))
  have q2' :rfB ⟨ao1,av1⟩ ⟨ao2,av2⟩=false:=by simpa using q2
  have hQ:=fun w=>neq_rref ao1 av1 ao2 av2 w
  rw [q2'] at hQ
  clear q2 q2'
  subst q1
  go_enter Tryz.func9,Tryz.ntmps9
  go_wp2
  go_ret
  exact ⟨ret_bool HR.out.symm,by exact eX⟩
 have q2e:=rfB_true.1 q2
 injection q2e with q3 q4
 clear q2
 subst q1 q3 q4
 by_cases q5:old1=old2
 case neg=>
  have HR:=Hm (show evB (⟨k1,ao1,av1,old1,b1,a1,r1,fl1⟩:Ev) (⟨k1,ao1,av1,old2,b2,a2,r2,fl2⟩:Ev)=false from evB_false.2 (fun h=>by injection h;contradiction))
  have q5' :(old1 !=old2)=true:=by simpa using q5
  clear q5
  go_enter Tryz.func9,Tryz.ntmps9
  go_wp2
  go_ret
  exact ⟨ret_bool HR.out.symm,by exact eX⟩
 subst q5
 by_cases q6:fl1=fl2
 case neg=>
  have HR:=Hm (show evB (⟨k1,ao1,av1,old1,b1,a1,r1,fl1⟩:Ev) (⟨k1,ao1,av1,old1,b2,a2,r2,fl2⟩:Ev)=false from evB_false.2 (fun h=>by injection h;contradiction))
  have q6' :(fl1 !=fl2)=true:=by simpa using q6
  clear q6
  go_enter Tryz.func9,Tryz.ntmps9
  go_wp2
  go_ret
  exact ⟨ret_bool HR.out.symm,by exact eX⟩
 subst q6
 by_cases hn:r1.length=r2.length
 case neg=>
  have hn' :(((r1.length:Nat):Int) !=((r2.length:Nat):Int))=true:=by simp;omega
  have HR:=Hm (show evB (⟨k1,ao1,av1,old1,b1,a1,r1,fl1⟩:Ev) (⟨k1,ao1,av1,old1,b2,a2,r2,fl1⟩:Ev)=false from evB_false.2 (fun h=>by injection h with _ _ _ _ _ _ e1;exact hn (by rw [e1])))
  clear hn
  go_enter Tryz.func9,Tryz.ntmps9
  go_wp2
  go_ret
  exact ⟨ret_bool HR.out.symm,by exact eX⟩
 have hn' :(((r1.length:Nat):Int) !=((r2.length:Nat):Int))=false:=by simp;omega
 have HN:=Hm hn
 clear hn
 go_enter Tryz.func9,Tryz.ntmps9
 go_wp2
 go_loopw [5] (fun i wr=>∃k:Nat,k≤r1.length∧i= .int .i64 k∧Hid (∀j (h1:j<r1.length) (h2:j<r2.length),j<k→r1[j]=r2[j])∧Hid (Ext w wr)∧Hid (Blk wr w.heap.size #[.int .u8 k1, .int .u32 ao1, .int .u32 av1, .int .u8 old1, .slice ba1 b1.length bc1, .slice aa1 a1.length ac1, .slice ra1 r1.length rc1, .int .u8 fl1] 50)∧Hid (Blk wr (w.heap.size+1) #[.int .u8 k1, .int .u32 ao1, .int .u32 av1, .int .u8 old1, .slice ba2 b2.length bc2, .slice aa2 a2.length ac2, .slice ra2 r2.length rc2, .int .u8 fl1] 50)) (fun i _=>r1.length - (intOf i).toNat)
 case atStart=>exact ⟨0,Nat.zero_le _,rfl,fun j _ _ h=>by omega,Hm (by exact eX),Hm ((Blk.new _ _ _).alloc _),Hm (Blk.new' _ _ (by simp))⟩
 case round=>
  obtain ⟨k,hk,rfl,hrel,hE,hX,hY⟩:=hrel
  have gx:=hX.out.cell
  have gy:=hY.out.cell
  have zx:=hX.out.lt
  have zy:=hY.out.lt
  by_cases hlt:k<r1.length
  ·have hlt2:k<r2.length:=by have:=HN.out;omega
   obtain ⟨o1,p1,rfl,hb1,hx1⟩:=HL.out.at_ (i:=k) (by simpa using hlt)
   obtain ⟨f0,f1⟩:=Rf.at_ hlt hx1 hb1 hE.out
   obtain ⟨o2,p2,rfl,hb2,hx2⟩:=HM.out.at_ (i:=k) (by simpa using hlt2)
   obtain ⟨s0,s1⟩:=Rf.at_ hlt2 hx2 hb2 hE.out
   have hbw:o1<wr.heap.size:=Nat.lt_of_lt_of_le hb1 hE.out.size
   have hbw2:o2<wr.heap.size:=Nat.lt_of_lt_of_le hb2 hE.out.size
   have hNq:=fun w=>neq_rref r1[k].o r1[k].v r2[k].o r2[k].v w
   cases hA:rfB ⟨r1[k].o,r1[k].v⟩ ⟨r2[k].o,r2[k].v⟩ with
   |true=>
    rw [hA] at hNq
    have HAE:=Hm (rfB_true.1 hA)
    clear hA hx1 hx2
    go_wp2
    go_region_held3 (fun w' =>Ext (wr) w'∧(∀b o,b<(wr).heap.size→w'.cell? ⟨b,o,none⟩=(wr).cell? ⟨b,o,none⟩)∧(∀b o,b<(wr).heap.size→w'.frozen? ⟨b,o,none⟩=(wr).frozen? ⟨b,o,none⟩)) ((exact held_of (by exact eX))) (fail)
    go_wp2
    go_roundw
    case rel=>exact ⟨k+1,by omega,by go_num,Hm (fun j h1 h2 hjk=>by
     by_cases e:j=k
     ·subst e;exact HAE.out
     ·exact hrel.out j h1 h2 (by omega)),Hm (hE.out.trans (by exact eX)),Hm (hX.out.ext (by exact eX)),Hm (hY.out.ext (by exact eX))⟩
    case measure=>simp [intOf];omega
   |false=>
    rw [hA] at hNq
    have HR:=Hm (show evB (⟨k1,ao1,av1,old1,b1,a1,r1,fl1⟩:Ev) (⟨k1,ao1,av1,old1,b2,a2,r2,fl1⟩:Ev)=false from evB_false.2 (fun h=>by injection h with _ _ _ _ _ _ e1;exact rfB_false.1 hA (by subst e1;rfl)))
    clear hA hx1 hx2
    go_wp2
    go_region_held3 (fun w' =>Ext (wr) w'∧(∀b o,b<(wr).heap.size→w'.cell? ⟨b,o,none⟩=(wr).cell? ⟨b,o,none⟩)∧(∀b o,b<(wr).heap.size→w'.frozen? ⟨b,o,none⟩=(wr).frozen? ⟨b,o,none⟩)) ((exact held_of (by exact eX))) (fail)
    go_wp2
    go_ret
    exact ⟨ret_bool HR.out.symm,hE.out.trans (by exact eX)⟩
  ·have hkk:k=r1.length:=by omega
   have HRS:=Hm (show r1=r2 from List.ext_getElem HN.out (fun i h1 h2=>hrel.out i h1 h2 (by omega)))
   subst hkk
   cases hb:rowB b1 b2 with
   |false=>
    have HR:=Hm (show evB (⟨k1,ao1,av1,old1,b1,a1,r1,fl1⟩:Ev) (⟨k1,ao1,av1,old1,b2,a2,r2,fl1⟩:Ev)=false from evB_false.2 (fun h=>by injection h with _ _ _ _ e1;exact rowB_false.1 hb e1))
    rw [hb] at HB
    clear hb
    go_wp2_with (go_at_call 33;refine (HB.out _ hE.out).mono ?_;rintro e w2 ⟨rfl,hb2⟩)
    go_ret
    exact ⟨ret_bool HR.out.symm,hE.out.trans hb2⟩
   |true=>
    have HBE:=Hm (rowB_true.1 hb)
    rw [hb] at HB
    clear hb
    have HR:=Hm (show evB (⟨k1,ao1,av1,old1,b1,a1,r1,fl1⟩:Ev) (⟨k1,ao1,av1,old1,b2,a2,r2,fl1⟩:Ev)=rowB a1 a2 from by
     unfold evB rowB
     exact decide_eq_decide.2 (by simp only [Ev.mk.injEq,true_and,and_true,HBE.out,HRS.out]))
    generalize rowB a1 a2=B at HA HR
    go_wp2_with (first
     |(go_at_call_of 33 (Value.slice ba1 b1.length bc1);(with_reducible refine (HB.out _ hE.out).mono ?_);rintro e w2 ⟨rfl,hb2⟩;have gx2:=(hX.out.ext hb2).cell;have zx2:=(hX.out.ext hb2).lt;have gy2:=(hY.out.ext hb2).cell;have zy2:=(hY.out.ext hb2).lt)
     |(go_at_call_of 33 (Value.slice aa1 a1.length ac1);refine (HA.out _ (hE.out.trans hb2)).mono ?_;rintro e w3 ⟨rfl,hb3⟩))
    go_ret
    exact ⟨ret_bool HR.out.symm,hE.out.trans (hb2.trans hb3)⟩
theorem isnan_any (x:Int) (w:World):Calls Tryz.prog 171 #[.int .u32 x] w fun e w' =>e= .returned (.bool false)∧w=w' :=by
 go_enter Tryz.func171,Tryz.ntmps171
 go_wp2
 go_ret
 exact ⟨by simp,rfl⟩
theorem cmpu_any (a b:Int) (w:World):Calls Tryz.prog 143 #[.int .u32 a, .int .u32 b] w fun e w' =>e= .returned (.int .i64 (cmpI a b))∧w=w' :=by
 by_cases h1:a<b
 ·have HR:=Hm (show cmpI a b= -1 by unfold cmpI;rw [if_pos h1])
  go_enter Tryz.func143,Tryz.ntmps143
  go_wp2_with (go_at_call 171;refine (isnan_any _ _).mono ?_;rintro e w1 ⟨rfl,rfl⟩)
  go_ret
  exact ⟨ret_int HR.out.symm,rfl⟩
 ·by_cases h2:b<a
  ·have HR:=Hm (show cmpI a b=1 by unfold cmpI;rw [if_neg h1,if_pos h2])
   go_enter Tryz.func143,Tryz.ntmps143
   go_wp2_with (go_at_call 171;refine (isnan_any _ _).mono ?_;rintro e w1 ⟨rfl,rfl⟩)
   go_ret
   exact ⟨ret_int HR.out.symm,rfl⟩
  ·have HR:=Hm (show cmpI a b=0 by unfold cmpI;rw [if_neg h1,if_neg h2])
   go_enter Tryz.func143,Tryz.ntmps143
   go_wp2_with (go_at_call 171;refine (isnan_any _ _).mono ?_;rintro e w1 ⟨rfl,rfl⟩)
   go_ret
   exact ⟨ret_int HR.out.symm,rfl⟩
def orI (a b:Int):Int:=if a≠0 then a else b
theorem cmpor_any (a b:Int) (B:Nat) (w:World) (h0:w.cell? ⟨B,0,none⟩=some (.int .i64 a)) (h1:w.cell? ⟨B,1,none⟩=some (.int .i64 b)) (_hB:B<w.heap.size):
 Calls Tryz.prog 142 #[.slice (some ⟨B,0,none⟩) 2 2] w fun e w' =>e= .returned (.int .i64 (orI a b))∧Ext w w' :=by
 by_cases ha:a=0
 ·subst ha
  by_cases hb:b=0
  ·subst hb
   go_enter Tryz.func142,Tryz.ntmps142
   go_wp2
   go_loop [8] (fun i=>i= .int .i64 0∨i= .int .i64 1∨i= .int .i64 2) (fun i=>2 - (intOf i).toNat)
   case atStart=>exact .inl rfl
   case round=>
    rcases hrel with rfl|rfl|rfl
    ·go_wp2
     go_round
     case rel=>exact .inr (.inl rfl)
     case measure=>simp [intOf]
    ·go_wp2
     go_round
     case rel=>exact .inr (.inr rfl)
     case measure=>simp [intOf]
    ·go_wp2
     go_ret
     exact ⟨ret_int (by unfold orI;simp),by exact eX⟩
  ·have hb' :(b !=0)=true:=by simpa using hb
   have HR:=Hm (show orI 0 b=b by unfold orI;simp)
   clear hb
   go_enter Tryz.func142,Tryz.ntmps142
   go_wp2
   go_loop [8] (fun i=>i= .int .i64 0∨i= .int .i64 1) (fun i=>2 - (intOf i).toNat)
   case atStart=>exact .inl rfl
   case round=>
    rcases hrel with rfl|rfl
    ·go_wp2
     go_round
     case rel=>exact .inr rfl
     case measure=>simp [intOf]
    ·go_wp2
     go_ret
     exact ⟨ret_int HR.out.symm,by exact eX⟩
 ·have ha' :(a !=0)=true:=by simpa using ha
  have HR:=Hm (show orI a b=a by unfold orI;rw [if_pos ha])
  clear ha
  go_enter Tryz.func142,Tryz.ntmps142
  go_wp2
  go_loop [8] (fun i=>i= .int .i64 0) (fun _=>0)
  case atStart=>rfl
  case round=>
   subst hrel
   go_wp2
   go_ret
   exact ⟨ret_int HR.out.symm,by exact eX⟩
theorem compare_any (o1 v1 o2 v2:Int) (w:World):
 Calls Tryz.prog 104 #[.agg #[.int .u32 o1, .int .u32 v1], .agg #[.int .u32 o2, .int .u32 v2]] w fun e w' =>e= .returned (.int .i64 (cmpR o1 v1 o2 v2))∧Ext w w' :=by
 have HC:=Hm (fun w=>cmpu_any o1 o2 w)
 have HD:=Hm (fun w=>cmpu_any v1 v2 w)
 have HR:=Hm (show orI (cmpI o1 o2) (cmpI v1 v2)=cmpR o1 v1 o2 v2 from rfl)
 obtain ⟨A,hA⟩:∃A,A=cmpI o1 o2:=⟨_,rfl⟩
 obtain ⟨B,hB⟩:∃B,B=cmpI v1 v2:=⟨_,rfl⟩
 rw [←hA] at HC HR
 rw [←hB] at HD HR
 clear hA hB
 go_enter Tryz.func104,Tryz.ntmps104
 go_wp2
 go_region_held3 (fun w' =>Ext ((w.alloc (.cells #[.int .u32 o1, .int .u32 v1] 34)).alloc (.cells #[.int .u32 o2, .int .u32 v2] 34)) w'∧(∀b o,b<((w.alloc (.cells #[.int .u32 o1, .int .u32 v1] 34)).alloc (.cells #[.int .u32 o2, .int .u32 v2] 34)).heap.size→w'.cell? ⟨b,o,none⟩=((w.alloc (.cells #[.int .u32 o1, .int .u32 v1] 34)).alloc (.cells #[.int .u32 o2, .int .u32 v2] 34)).cell? ⟨b,o,none⟩)∧(∀b o,b<((w.alloc (.cells #[.int .u32 o1, .int .u32 v1] 34)).alloc (.cells #[.int .u32 o2, .int .u32 v2] 34)).heap.size→w'.frozen? ⟨b,o,none⟩=((w.alloc (.cells #[.int .u32 o1, .int .u32 v1] 34)).alloc (.cells #[.int .u32 o2, .int .u32 v2] 34)).frozen? ⟨b,o,none⟩)) ((exact held_of (by exact eX))) (first
  |(go_at_call_of 143 (Value.int .u32 o1);refine (HC.out _).mono ?_;rintro e w1 ⟨rfl,rfl⟩)
  |(go_at_call_of 143 (Value.int .u32 v1);refine (HD.out _).mono ?_;rintro e w1 ⟨rfl,rfl⟩)
  |(go_at_call 142;refine (cmpor_any A B _ _ (by go_simp) (by go_simp) (by simp)).mono ?_;rintro e w1 ⟨rfl,hb1⟩))
 go_wp2
 go_ret
 exact ⟨ret_int HR.out,by exact eX⟩
theorem find1_any (p:RR) (o v:Int) (w:World):
 Calls Tryz.prog 103 #[p.agg, .agg #[.int .u32 o, .int .u32 v]] w fun e w' =>e= .returned (.int .i64 (cmpR p.r.oid p.r.ver o v))∧Ext w w' :=by
 obtain ⟨⟨oid,ver,nm,id,cols⟩,a,c⟩:=p
 unfold RR.agg
 simp only
 have HC:=Hm (fun w=>compare_any oid ver o v w)
 obtain ⟨A,hA⟩:∃A,A=cmpR oid ver o v:=⟨_,rfl⟩
 rw [←hA] at HC⊢
 clear hA
 go_enter Tryz.func103,Tryz.ntmps103
 go_wp2_with (go_at_call 104;refine (HC.out _).mono ?_;rintro e w1 ⟨rfl,hb1⟩)
 go_ret
 exact ⟨rfl,by exact eX⟩
theorem wpHd_takeD {P:Program} {ops:Array Oper} {Q:Exit→Act→World→Prop} {md:Region.Mode} {S:World→Prop} {n i:Nat} {oi:Oper} {d:Option Tmp} {v:Value} {f:Nat} {listed:Array Bool} {a:Act} {w:World} (hi:ops[i]? =some oi) (hd:oi.dst=d)
 (hB:headB md ops n listed=true) (hf:Region.free md ops listed i=true) (hr:((Region.ready md ops listed).contains i&&decide (i<n))=true)
 (hQ:∀c a w,Q (.panic c) (a.put d v) w→Q (.panic c) a w) (hy:YieldsIf P ops S oi v a) (hS:S w)
 (h:wpHd P md ops Q S n f (listed.setIfInBounds i true) (a.put d v) w):wpHd P md ops Q S n (f+1) listed a w:=by
 subst hd
 exact wpHd_take hi hB hf hr hQ hy hS h
theorem rahead_any (o1 v1 o2 v2:Int) (w:World):
 Calls Tryz.prog 74 #[.agg #[.int .u32 o1, .int .u32 v1], .agg #[.int .u32 o2, .int .u32 v2]] w fun e w' =>e= .returned (.bool (aheadB o1 v1 o2 v2))∧Ext w w' :=by
 by_cases h1:o1<o2
 ·have HR:=Hm (show aheadB o1 v1 o2 v2=true from decide_eq_true (.inl h1))
  go_enter Tryz.func74,Tryz.ntmps74
  go_wp2
  go_ret
  exact ⟨ret_bool HR.out.symm,by exact eX⟩
 by_cases h2:o1=o2
 ·subst h2
  by_cases h3:v1<v2
  ·have HR:=Hm (show aheadB o1 v1 o1 v2=true from decide_eq_true (.inr ⟨rfl,h3⟩))
   go_enter Tryz.func74,Tryz.ntmps74
   go_wp2
   go_ret
   exact ⟨ret_bool HR.out.symm,by exact eX⟩
  ·have HR:=Hm (show aheadB o1 v1 o1 v2=false from decide_eq_false (by unfold aheadP;omega))
   go_enter Tryz.func74,Tryz.ntmps74
   go_wp2
   go_ret
   exact ⟨ret_bool HR.out.symm,by exact eX⟩
 ·have HR:=Hm (show aheadB o1 v1 o2 v2=false from decide_eq_false (by unfold aheadP;omega))
  have h2' :(o1==o2)=false:=by simpa using h2
  clear h2
  go_enter Tryz.func74,Tryz.ntmps74
  go_wp2
  go_ret
  exact ⟨ret_bool HR.out.symm,by exact eX⟩
theorem rget_any (ps:List RR) (a:Option Addr) (cap:Nat) (o v:Int) (w:World) (hl:RL w (.slice a ps.length cap) ps) (hlen:ps.length≤1000):
 Calls Tryz.prog 29 #[.slice a ps.length cap, .agg #[.int .u32 o, .int .u32 v]] w fun e w' =>e= .returned (.tuple #[((getP o v ps).getD RR.zero).agg, .bool (getP o v ps).isSome])∧Ext w w' :=by
 have HL:=Hm hl.row
 clear hl
 go_enter Tryz.func29,Tryz.ntmps29
 go_wp2
 go_loopw [6] (fun i wr=>∃k:Nat,k≤ps.length∧i= .int .i64 k∧Hid (∀j (hj:j<ps.length),j<k→¬ (ps[j].r.oid=o∧ps[j].r.ver=v))∧Hid (Ext ((w.alloc (.cells #[.int .u32 o, .int .u32 v] 46)).alloc (.cells #[.int .u32 0, .int .u32 0, .string ⟨#[]⟩, .int .u8 0, .slice none 0 0] 77)) wr)) (fun i _=>ps.length - (intOf i).toNat)
 case atStart=>exact ⟨0,Nat.zero_le _,rfl,Hm (fun j hj h=>by omega),Hm (Ext.refl _)⟩
 case round=>
  obtain ⟨k,hk,rfl,hrel,hE⟩:=hrel
  have hEw:Ext w wr:=(((Ext.refl w).alloc _).alloc _).trans hE.out
  have HB0:=Hm (((Blk.new w #[.int .u32 o, .int .u32 v] 46).alloc (.cells #[.int .u32 0, .int .u32 0, .string ⟨#[]⟩, .int .u8 0, .slice none 0 0] 77)).ext hE.out)
  have HB1:=Hm ((Blk.new' (w:=w.alloc (.cells #[.int .u32 o, .int .u32 v] 46)) (b:=w.heap.size+1) #[.int .u32 0, .int .u32 0, .string ⟨#[]⟩, .int .u8 0, .slice none 0 0] 77 (by simp)).ext hE.out)
  have g0:=HB0.out.cell
  have z0:=HB0.out.lt
  have g1:=HB1.out.cell
  have g1f:=HB1.out.frozen
  have z1:=HB1.out.lt
  by_cases hlt:k<ps.length
  ·obtain ⟨b,q,rfl,hb,hx⟩:=HL.out.at_ (i:=k) (by simpa using hlt)
   obtain ⟨f0,f1,f2,f3,f4⟩:=RR.at_ hlt hx hb hEw
   have hbw:b<wr.heap.size:=Nat.lt_of_lt_of_le hb hEw.size
   have HGP:=Hm (fun h=>getP_at (o:=o) (v:=v) hlt h hrel.out)
   obtain ⟨p,hp⟩:∃p,p=ps[k]:=⟨_,rfl⟩
   rw [←hp] at f0 f1 f2 f3 f4 HGP
   have HP:=Hm hp
   clear hx hp
   have HEW:=Hm hEw
   clear hEw
   by_cases h1:p.r.oid=o∧p.r.ver=v
   ·have HG:=Hm (HGP.out h1)
    obtain ⟨e1,e2⟩:=h1
    rw [e1] at f0
    rw [e2] at f1
    clear HGP
    go_wp2
    go_region_held3 (fun w' =>Ext (wr) w'∧(∀b o,b<(wr).heap.size→w'.cell? ⟨b,o,none⟩=(wr).cell? ⟨b,o,none⟩)∧(∀b o,b<(wr).heap.size→w'.frozen? ⟨b,o,none⟩=(wr).frozen? ⟨b,o,none⟩)) ((exact held_of (by exact eX))) (fail)
    go_wp2
    simp [bodyPost,results,Tryz.results29,go_sem, *]
    have hEw:=HEW.out
    exact ⟨⟨by rw [HG.out];show _=RR.agg p;unfold RR.agg;rw [e1,e2],by rw [HG.out];rfl⟩,by exact eX⟩
   ·have HNO:=Hm h1
    by_cases h2:p.r.oid=o
    ·have h3:(p.r.ver==v)=false:=by simpa using (fun h=>h1 ⟨h2,h⟩)
     rw [h2] at f0
     clear HGP h1
     go_wp2
     go_region_held3 (fun w' =>Ext (wr) w'∧(∀b o,b<(wr).heap.size→w'.cell? ⟨b,o,none⟩=(wr).cell? ⟨b,o,none⟩)∧(∀b o,b<(wr).heap.size→w'.frozen? ⟨b,o,none⟩=(wr).frozen? ⟨b,o,none⟩)) ((exact held_of (by exact eX))) (fail)
     go_wp2
     go_roundw
     case rel=>exact ⟨k+1,by omega,by go_num,Hm (fun j hj hjk=>by
      by_cases e:j=k
      ·subst e;rw [←HP.out];exact HNO.out
      ·exact hrel.out j hj (by omega)),Hm (by have hE:=hE.out;exact eX)⟩
     case measure=>simp [intOf];omega
    ·have h3:(p.r.oid==o)=false:=by simpa using h2
     clear HGP h1 h2
     go_wp2
     go_region_held3 (fun w' =>Ext (wr) w'∧(∀b o,b<(wr).heap.size→w'.cell? ⟨b,o,none⟩=(wr).cell? ⟨b,o,none⟩)∧(∀b o,b<(wr).heap.size→w'.frozen? ⟨b,o,none⟩=(wr).frozen? ⟨b,o,none⟩)) ((exact held_of (by exact eX))) (fail)
     go_wp2
     go_roundw
     case rel=>exact ⟨k+1,by omega,by go_num,Hm (fun j hj hjk=>by
      by_cases e:j=k
      ·subst e;rw [←HP.out];exact HNO.out
      ·exact hrel.out j hj (by omega)),Hm (by have hE:=hE.out;exact eX)⟩
     case measure=>simp [intOf];omega
  ·have HN:=Hm (getP_none (o:=o) (v:=v) (ps:=ps) (fun j hj=>hrel.out j hj (by omega)))
   have HEW:=Hm hEw
   clear hEw
   go_wp2
   simp [bodyPost,results,Tryz.results29,go_sem, *]
   have hEw:=HEW.out
   exact ⟨⟨by rw [HN.out];rfl,by rw [HN.out]⟩,by exact eX⟩
end Go.Proofs.YtodbhliidbclcaaGreat
