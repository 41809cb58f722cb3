/-
What is wrong with a relation, the program's answer.
-/
import Derived.Deep.RegionHeld
import Derived.Test.YtgmphpccpfaapaaGreatDoorP6
import Derived.Test.YtgmphpccpfaapaaGreatDoorP3
import Derived.Test.YtgmphpccpfaapaaGreatDoorP5
set_option maxRecDepth 100000
set_option maxHeartbeats 16000000
namespace Go.Proofs.YtgmphpccpfaapaaGreatDoor
open Go.RowKit
theorem Sl.take {w:World} {a:Option Addr} {n cap k:Nat} {xss:List (List Value)} (h:Sl w (.slice a n cap) k xss) {i:Nat} (hi:i≤xss.length):Sl w (.slice a i cap) k (xss.take i):=by
 obtain ⟨a',cap',hv,hs⟩:=h
 simp only [Value.slice.injEq] at hv
 obtain ⟨rfl, -,rfl⟩:=hv
 have hl:(xss.take i).length=i:=by rw [List.length_take];omega
 refine ⟨a,cap,by rw [hl], ?_⟩
 rcases hs with rfl|⟨b,o,rfl,hb,hc⟩
 ·left;simp
 ·refine .inr ⟨b,o,rfl,hb,fun j hj q hq=> ?_⟩
  rw [hl] at hj
  rw [hc j (by omega) q hq]
  simp [hj]
theorem Rl.right_cols {r:Rl} (h1:r.oid≠0) (h2:r.ver≠0) (h3:namedB r.nm=true) (h4:r.id≤2) (h5:1≤r.cols.length) (h6:r.cols.length≤16):
 r.right=if firstE (colAt r.cols) r.cols.length≠0 then firstE (colAt r.cols) r.cols.length else if r.id=1∧r.cols.any Col.key=false then 13 else 0:=by
 unfold Rl.right
 rw [if_neg (by omega),if_neg (by rw [h3];simp),if_neg (by omega),if_neg (by omega)]
theorem right8_any (oid ver:Int) (nm:ByteArray) (id:Int) (cols:List Col) (a:Option Addr) (cap:Nat) (w:World) (hl:Sl w (.slice a cols.length cap) 3 (cols.map Col.cells)) (hcap:cols.length≤cap) (hlen:cols.length≤1000)
 (hnm:nm.size≤9223372036854775807) (hcs:∀c∈cols,c.nm.size≤9223372036854775807):
 Calls Tryz.prog 63 #[.agg #[.int .u32 oid, .int .u32 ver, .string nm, .int .u8 id, .slice a cols.length cap]] w fun e w' =>e= .returned (.int .i64 (⟨oid,ver,nm,id,cols⟩:Rl).right)∧Ext w w' :=by
 have HN:=Hm (fun w=>named_any nm w hnm)
 have HK:=Hm (fun W (h:Ext w W)=>keyed_any oid ver nm id cols a cap W (hl.ext h) hlen)
 have HL:=Hm hl
 have HCS:=Hm hcs
 clear hl hcs
 by_cases h1:oid=0
 ·have HR:=Hm (show (⟨oid,ver,nm,id,cols⟩:Rl).right=4 by unfold Rl.right;rw [if_pos (.inl h1)])
  have e1:(oid==0)=true:=by simpa using h1
  clear h1
  go_enter Tryz.func63,Tryz.ntmps63
  go_wp2
  go_ret
  exact ⟨ret_int HR.out.symm,by exact eX⟩
 have e1:(oid==0)=false:=by simpa using h1
 by_cases h2:ver=0
 ·have HR:=Hm (show (⟨oid,ver,nm,id,cols⟩:Rl).right=4 by unfold Rl.right;rw [if_pos (.inr h2)])
  have e2:(ver==0)=true:=by simpa using h2
  clear h2 h1
  go_enter Tryz.func63,Tryz.ntmps63
  go_wp2
  go_ret
  exact ⟨ret_int HR.out.symm,by exact eX⟩
 have e2:(ver==0)=false:=by simpa using h2
 cases h3:namedB nm with
 |false=>
  have HR:=Hm (show (⟨oid,ver,nm,id,cols⟩:Rl).right=3 by unfold Rl.right;rw [if_neg (by simp only;omega),if_pos h3])
  rw [h3] at HN
  clear h3 h2 h1
  go_enter Tryz.func63,Tryz.ntmps63
  go_wp2_with (go_at_call 87;refine (HN.out _).mono ?_;rintro e w1 ⟨rfl,rfl⟩)
  go_ret
  exact ⟨ret_int HR.out.symm,by exact eX⟩
 |true=>
 by_cases h4:2<id
 ·have HR:=Hm (show (⟨oid,ver,nm,id,cols⟩:Rl).right=7 by unfold Rl.right;rw [if_neg (by simp only;omega),if_neg (by simp only [h3];simp),if_pos h4])
  rw [h3] at HN
  clear h3 h2 h1
  go_enter Tryz.func63,Tryz.ntmps63
  go_wp2_with (go_at_call 87;refine (HN.out _).mono ?_;rintro e w1 ⟨rfl,rfl⟩)
  go_ret
  exact ⟨ret_int HR.out.symm,by exact eX⟩
 by_cases h5:cols.length<1
 ·have HR:=Hm (show (⟨oid,ver,nm,id,cols⟩:Rl).right=17 by unfold Rl.right;rw [if_neg (by simp only;omega),if_neg (by simp only [h3];simp),if_neg (by simp only;omega),if_pos (.inl h5)])
  have h4' :id≤2:=by omega
  rw [h3] at HN
  clear h3 h2 h1
  go_enter Tryz.func63,Tryz.ntmps63
  go_wp2_with (go_at_call 87;refine (HN.out _).mono ?_;rintro e w1 ⟨rfl,rfl⟩)
  go_ret
  exact ⟨ret_int HR.out.symm,by exact eX⟩
 by_cases h6:16<cols.length
 ·have HR:=Hm (show (⟨oid,ver,nm,id,cols⟩:Rl).right=17 by unfold Rl.right;rw [if_neg (by simp only;omega),if_neg (by simp only [h3];simp),if_neg (by simp only;omega),if_pos (.inr h6)])
  have h4' :id≤2:=by omega
  have h5' :1≤cols.length:=by omega
  rw [h3] at HN
  clear h3 h2 h1
  go_enter Tryz.func63,Tryz.ntmps63
  go_wp2_with (go_at_call 87;refine (HN.out _).mono ?_;rintro e w1 ⟨rfl,rfl⟩)
  go_ret
  exact ⟨ret_int HR.out.symm,by exact eX⟩
 have HR:=Hm (Rl.right_cols (r:=(⟨oid,ver,nm,id,cols⟩:Rl)) h1 h2 h3 (by simp only;omega) (by simp only;omega) (by simp only;omega))
 simp only at HR
 rw [h3] at HN
 have h4' :id≤2:=by omega
 have h5' :1≤cols.length:=by omega
 have h6' :cols.length≤16:=by omega
 clear h3 h2 h1 h4 h5 h6
 go_enter Tryz.func63,Tryz.ntmps63
 go_wp2_with (go_at_call 87;refine (HN.out _).mono ?_;rintro e w1 ⟨rfl,rfl⟩)
 go_loopw [40] (fun i wr=>∃k:Nat,k≤cols.length∧i= .int .i64 k∧Hid (∀j,j<k→colAt cols j=0)∧Hid (Ext (w.alloc (.cells #[.int .u32 oid, .int .u32 ver, .string nm, .int .u8 id, .slice a cols.length cap] 72)) wr)) (fun i _=>cols.length - (intOf i).toNat)
 case atStart=>exact ⟨0,Nat.zero_le _,rfl,fun j h=>by omega,Ext.refl _⟩
 case round=>
  obtain ⟨k,hk,rfl,hrel,hE⟩:=hrel
  have hBx:=(Blk.new w #[.int .u32 oid, .int .u32 ver, .string nm, .int .u8 id, .slice a cols.length cap] 72).ext hE.out
  have g0:=hBx.cell
  have z0:=hBx.lt
  clear hBx
  by_cases hlt:k<cols.length
  ·obtain ⟨b,o,rfl,hb,hx⟩:=HL.out.at_ (i:=k) (by simpa using hlt)
   have hEw:Hid (Ext w wr):=Hm (((Ext.refl w).alloc _).trans hE.out)
   obtain ⟨f0,f1,f2⟩:=Col.at_ hlt hx hb hEw.out
   have hbw:b<wr.heap.size:=Nat.lt_of_lt_of_le hb hEw.out.size
   have HF:=Hm (fun W (h:Ext wr W)=>column_any cols[k] (cols.take k) (some ⟨b,o,none⟩) k cap W (by rw [List.length_take];omega) (by have:=(HL.out.ext (hEw.out.trans h)).take (i:=k) (by rw [List.length_map];omega);rwa [←List.map_take] at this) (by rw [List.length_take];omega) (HCS.out _ (List.getElem_mem hlt)))
   have hAt:=colAt_lt hlt
   have q1:(0:Int)≤(k:Int):=by omega
   have q2:(k:Int)≤(cap:Int):=by omega
   obtain ⟨E,hE0⟩:∃E,E=colE cols[k] (cols.take k):=⟨_,rfl⟩
   rw [←hE0] at HF hAt
   have HAt:=Hm hAt
   clear hx hAt hE0
   by_cases h0:E=0
   ·subst h0
    go_wp2
    go_region_held3 (fun w' =>Ext (wr.alloc (.cells #[.string cols[k].nm, .int .u8 cols[k].ty, .bool cols[k].key] 153)) w'∧(∀b o,b<(wr.alloc (.cells #[.string cols[k].nm, .int .u8 cols[k].ty, .bool cols[k].key] 153)).heap.size→w'.cell? ⟨b,o,none⟩=(wr.alloc (.cells #[.string cols[k].nm, .int .u8 cols[k].ty, .bool cols[k].key] 153)).cell? ⟨b,o,none⟩)∧(∀b o,b<(wr.alloc (.cells #[.string cols[k].nm, .int .u8 cols[k].ty, .bool cols[k].key] 153)).heap.size→w'.frozen? ⟨b,o,none⟩=(wr.alloc (.cells #[.string cols[k].nm, .int .u8 cols[k].ty, .bool cols[k].key] 153)).frozen? ⟨b,o,none⟩)) ((exact held_of (by exact eX)))
     (first
      |(go_at_call 88;refine (HF.out _ (by exact eX)).mono ?_;rintro e w2 ⟨rfl,hb2⟩))
    go_wp2
    go_roundw
    case rel=>exact ⟨k+1,by omega,by go_num,fun j hj=>by
     by_cases e:j=k
     ·subst e;exact HAt.out
     ·exact hrel.out j (by omega),Hm (hE.out.trans (by exact eX))⟩
    case measure=>simp [intOf];omega
   ·have h0' :(E !=0)=true:=by simpa using h0
    have HR2:=Hm (show (⟨oid,ver,nm,id,cols⟩:Rl).right=E by rw [HR.out,firstE_at hrel.out hlt (by rw [HAt.out];exact h0),HAt.out,if_pos h0])
    clear h0
    go_wp2
    go_region_held3 (fun w' =>Ext (wr.alloc (.cells #[.string cols[k].nm, .int .u8 cols[k].ty, .bool cols[k].key] 153)) w'∧(∀b o,b<(wr.alloc (.cells #[.string cols[k].nm, .int .u8 cols[k].ty, .bool cols[k].key] 153)).heap.size→w'.cell? ⟨b,o,none⟩=(wr.alloc (.cells #[.string cols[k].nm, .int .u8 cols[k].ty, .bool cols[k].key] 153)).cell? ⟨b,o,none⟩)∧(∀b o,b<(wr.alloc (.cells #[.string cols[k].nm, .int .u8 cols[k].ty, .bool cols[k].key] 153)).heap.size→w'.frozen? ⟨b,o,none⟩=(wr.alloc (.cells #[.string cols[k].nm, .int .u8 cols[k].ty, .bool cols[k].key] 153)).frozen? ⟨b,o,none⟩)) ((exact held_of (by exact eX)))
     (first
      |(go_at_call 88;refine (HF.out _ (by exact eX)).mono ?_;rintro e w2 ⟨rfl,hb2⟩))
    go_wp2
    go_ret
    exact ⟨ret_int HR2.out.symm,hEw.out.trans (by exact eX)⟩
  ·have hkk:k=cols.length:=by omega
   have hEw:Hid (Ext w wr):=Hm (((Ext.refl w).alloc _).trans hE.out)
   have HR2:=Hm (show (⟨oid,ver,nm,id,cols⟩:Rl).right=if id=1∧cols.any Col.key=false then 13 else 0 by rw [HR.out,firstE_zero (fun i hi=>hrel.out i (by omega)),if_neg (by simp)])
   subst hkk
   clear hrel HR
   by_cases h7:id=1
   ·subst h7
    cases h8:cols.any Col.key with
    |false=>
     rw [h8] at HK HR2
     clear h8
     go_wp2_with (go_at_call 89;refine (HK.out _ hEw.out).mono ?_;rintro e w2 ⟨rfl,hb2⟩)
     go_ret
     exact ⟨ret_int (by rw [HR2.out];simp),hEw.out.trans (by exact eX)⟩
    |true=>
     rw [h8] at HK HR2
     clear h8
     go_wp2_with (go_at_call 89;refine (HK.out _ hEw.out).mono ?_;rintro e w2 ⟨rfl,hb2⟩)
     go_ret
     exact ⟨ret_int (by rw [HR2.out];simp),hEw.out.trans (by exact eX)⟩
   ·have e7:(id==1)=false:=by simpa using h7
    have HR3:=Hm (HR2.out.trans (if_neg (fun h=>h7 h.1)))
    clear h7 HR2
    go_wp2
    go_ret
    exact ⟨ret_int HR3.out.symm,hEw.out⟩
theorem owns_base {w:World} {base base2:Nat} {e:TypeId} {size n:Nat} {v:Value} {xs:List Value} (h:w.ownsRow base e size v n xs) (hb:base2≤base):w.ownsRow base2 e size v n xs:=by
 obtain ⟨h1,h2⟩:=h
 refine ⟨h1,h2.imp id ?_⟩
 rintro ⟨g,cap,cur,hv,hg,hr⟩
 exact ⟨g,cap,cur,hv,by omega,hr⟩
theorem own8_big (oid ver:Int) (nm:ByteArray) (id:Int) (cols:List Col) (a:Option Addr) (cap:Nat) (w:World) (hl:Sl w (.slice a cols.length cap) 3 (cols.map Col.cells)) (hlen:cols.length≤5864062014634):
 Calls Tryz.prog 31 #[.agg #[.int .u32 oid, .int .u32 ver, .string nm, .int .u8 id, .slice a cols.length cap]] w fun e w' =>∃a' cap',e= .returned (.agg #[.int .u32 oid, .int .u32 ver, .string nm, .int .u8 id, .slice a' cols.length cap'])∧cols.length≤cap'∧w'.ownsRow w.heap.size 153 3 (.slice a' cols.length cap') cols.length (cols.map Col.cells).flatten∧Ext w w' :=by
 have HL:=Hm hl
 clear hl
 obtain ⟨i0,hi,hz0,hz1,hz2⟩:=info_parts Tryz.infoCol
 go_enter Tryz.func31,Tryz.ntmps31
 go_wp2
 go_loopw [4] (fun i wr=>∃(k:Nat) (v:Value),k≤cols.length∧i= .int .i64 k∧Hid (wr.ownsRow (w.heap.size+3) 153 3 v k ((cols.map Col.cells).take k).flatten)∧Blk wr w.heap.size #[.int .u32 oid, .int .u32 ver, .string nm, .int .u8 id, .slice a cols.length cap] 44∧Blk wr (w.heap.size+1) #[.int .u32 0, .int .u32 0, .string ⟨#[]⟩, .int .u8 0, .slice none 0 0] 72∧Blk wr (w.heap.size+1+1) #[.int .u32 oid, .int .u32 ver, .string nm, .int .u8 id,v] 72∧Hid (Ext w wr)) (fun i _=>cols.length - (intOf i).toNat)
 case atStart=>exact ⟨0, .slice none 0 0,Nat.zero_le _,rfl,World.ownsRow_nil _ _ _ _,((Blk.new _ _ _).alloc _).alloc _,(Blk.new' _ _ (by simp)).alloc _,Blk.new' _ _ (by simp),Hm (by exact eX)⟩
 case round=>
  obtain ⟨k,v,hk,rfl,hown,hB0,hB1,hB2,hE⟩:=hrel
  by_cases hlt:k<cols.length
  ·obtain ⟨b,o,rfl,hb,hc⟩:=HL.out.at_ (i:=k) (by simpa using hlt)
   obtain ⟨f0,f1,f2⟩:=Col.at_ hlt hc hb hE.out
   have hT:=Hm (flat_snoc (f:=Col.cells) hlt)
   obtain ⟨c,hcc⟩:∃c,c=cols[k]:=⟨_,rfl⟩
   rw [←hcc] at f0 f1 f2 hT
   have hbw:b<wr.heap.size:=Nat.lt_of_lt_of_le hb hE.out.size
   have HC:=Hm hcc
   clear hcc hc
   have g0:=hB0.cell
   have g2:=hB2.cell
   have z0:=hB0.lt
   have z1:=hB1.lt
   have z2:=hB2.lt
   have HB0:=Hm hB0
   have HB1:=Hm hB1
   have HB2:=Hm hB2
   clear hB0 hB1 hB2
   go_wp2
   refine wp_region_head 22 (fun w' =>Ext (wr) w'∧(∀b o,b<(wr).heap.size→w'.cell? ⟨b,o,none⟩=(wr).cell? ⟨b,o,none⟩)∧(∀b o,b<(wr).heap.size→w'.frozen? ⟨b,o,none⟩=(wr).frozen? ⟨b,o,none⟩)) (by kernel_rfl) (by decide) ?_
   have hA0:Hid ((fun w' =>Ext (wr) w'∧(∀b o,b<(wr).heap.size→w'.cell? ⟨b,o,none⟩=(wr).cell? ⟨b,o,none⟩)∧(∀b o,b<(wr).heap.size→w'.frozen? ⟨b,o,none⟩=(wr).frozen? ⟨b,o,none⟩)) wr.drew):=held_of (by exact eX)
   (refine wpHd_take (i:=0) (v:= ?_) rfl (by kernel_rfl) (by kernel_rfl) (by kernel_rfl) (fun _ _ _ h=>h) (Or.inl ⟨by rfl, ?_⟩) hA0.out ?_;rotate_left 1; · (intro w' hS';(obtain ⟨hEs',hcs',hfs'⟩:=hS');go_simp;try with_reducible rfl))
   (refine wpHd_take (i:=1) (v:= ?_) rfl (by kernel_rfl) (by kernel_rfl) (by kernel_rfl) (fun _ _ _ h=>h) (Or.inl ⟨by rfl, ?_⟩) hA0.out ?_;rotate_left 1; · (intro w' hS';(obtain ⟨hEs',hcs',hfs'⟩:=hS');go_simp;try with_reducible rfl))
   (refine wpHd_take (i:=2) (v:= ?_) rfl (by kernel_rfl) (by kernel_rfl) (by kernel_rfl) (fun _ _ _ h=>h) (Or.inl ⟨by rfl, ?_⟩) hA0.out ?_;rotate_left 1; · (intro w' hS';(obtain ⟨hEs',hcs',hfs'⟩:=hS');go_simp;try with_reducible rfl))
   (refine wpHd_take (i:=3) (v:= ?_) rfl (by kernel_rfl) (by kernel_rfl) (by kernel_rfl) (fun _ _ _ h=>h) (Or.inl ⟨by rfl, ?_⟩) hA0.out ?_;rotate_left 1; · (intro w' hS';(obtain ⟨hEs',hcs',hfs'⟩:=hS');go_simp;try with_reducible rfl))
   (refine wpHd_take (i:=4) (v:= ?_) rfl (by kernel_rfl) (by kernel_rfl) (by kernel_rfl) (fun _ _ _ h=>h) (Or.inl ⟨by rfl, ?_⟩) hA0.out ?_;rotate_left 1; · (intro w' hS';(obtain ⟨hEs',hcs',hfs'⟩:=hS');go_simp;try with_reducible rfl))
   (refine wpHd_take (i:=5) (v:= ?_) rfl (by kernel_rfl) (by kernel_rfl) (by kernel_rfl) (fun _ _ _ h=>h) (Or.inl ⟨by rfl, ?_⟩) hA0.out ?_;rotate_left 1; · (intro w' hS';(obtain ⟨hEs',hcs',hfs'⟩:=hS');go_simp;try with_reducible rfl))
   (refine wpHd_take (i:=6) (v:= ?_) rfl (by kernel_rfl) (by kernel_rfl) (by kernel_rfl) (fun _ _ _ h=>h) (Or.inl ⟨by rfl, ?_⟩) hA0.out ?_;rotate_left 1; · (intro w' hS';(obtain ⟨hEs',hcs',hfs'⟩:=hS');go_simp;try with_reducible rfl))
   (refine wpHd_take (i:=7) (v:= ?_) rfl (by kernel_rfl) (by kernel_rfl) (by kernel_rfl) (fun _ _ _ h=>h) (Or.inl ⟨by rfl, ?_⟩) hA0.out ?_;rotate_left 1; · (intro w' hS';(obtain ⟨hEs',hcs',hfs'⟩:=hS');go_simp;try with_reducible rfl))
   (refine wpHd_take (i:=8) (v:= ?_) rfl (by kernel_rfl) (by kernel_rfl) (by kernel_rfl) (fun _ _ _ h=>h) (Or.inl ⟨by rfl, ?_⟩) hA0.out ?_;rotate_left 1; · (intro w' hS';(obtain ⟨hEs',hcs',hfs'⟩:=hS');go_simp;try with_reducible rfl))
   (refine wpHd_take (i:=9) (v:= ?_) rfl (by kernel_rfl) (by kernel_rfl) (by kernel_rfl) (fun _ _ _ h=>h) (Or.inl ⟨by rfl, ?_⟩) hA0.out ?_;rotate_left 1; · (intro w' hS';(obtain ⟨hEs',hcs',hfs'⟩:=hS');go_simp;try with_reducible rfl))
   (refine wpHd_take (i:=10) (v:= ?_) rfl (by kernel_rfl) (by kernel_rfl) (by kernel_rfl) (fun _ _ _ h=>h) (Or.inl ⟨by rfl, ?_⟩) hA0.out ?_;rotate_left 1; · (intro w' hS';(obtain ⟨hEs',hcs',hfs'⟩:=hS');go_simp;try with_reducible rfl))
   (refine wpHd_take (i:=11) (v:= ?_) rfl (by kernel_rfl) (by kernel_rfl) (by kernel_rfl) (fun _ _ _ h=>h) (Or.inl ⟨by rfl, ?_⟩) hA0.out ?_;rotate_left 1; · (intro w' hS';(obtain ⟨hEs',hcs',hfs'⟩:=hS');go_simp;try with_reducible rfl))
   (refine wpHd_take (i:=12) (v:= ?_) rfl (by kernel_rfl) (by kernel_rfl) (by kernel_rfl) (fun _ _ _ h=>h) (Or.inl ⟨by rfl, ?_⟩) hA0.out ?_;rotate_left 1; · (intro w' hS';(obtain ⟨hEs',hcs',hfs'⟩:=hS');go_simp;try with_reducible rfl))
   (refine wpHd_take (i:=13) (v:= ?_) rfl (by kernel_rfl) (by kernel_rfl) (by kernel_rfl) (fun _ _ _ h=>h) (Or.inl ⟨by rfl, ?_⟩) hA0.out ?_;rotate_left 1; · (intro w' hS';(obtain ⟨hEs',hcs',hfs'⟩:=hS');go_simp;try with_reducible rfl))
   (refine wpHd_take (i:=14) (v:= ?_) rfl (by kernel_rfl) (by kernel_rfl) (by kernel_rfl) (fun _ _ _ h=>h) (Or.inl ⟨by rfl, ?_⟩) hA0.out ?_;rotate_left 1; · (intro w' hS';(obtain ⟨hEs',hcs',hfs'⟩:=hS');go_simp;try with_reducible rfl))
   (refine wpHd_take (i:=15) (v:= ?_) rfl (by kernel_rfl) (by kernel_rfl) (by kernel_rfl) (fun _ _ _ h=>h) (Or.inl ⟨by rfl, ?_⟩) hA0.out ?_;rotate_left 1; · (intro w' hS';(obtain ⟨hEs',hcs',hfs'⟩:=hS');go_simp;try with_reducible rfl))
   (refine wpHd_take (i:=16) (v:= ?_) rfl (by kernel_rfl) (by kernel_rfl) (by kernel_rfl) (fun _ _ _ h=>h) (Or.inl ⟨by rfl, ?_⟩) hA0.out ?_;rotate_left 1; · (intro w' hS';(obtain ⟨hEs',hcs',hfs'⟩:=hS');go_simp;try with_reducible rfl))
   (refine wpHd_take (i:=17) (v:= ?_) rfl (by kernel_rfl) (by kernel_rfl) (by kernel_rfl) (fun _ _ _ h=>h) (Or.inl ⟨by rfl, ?_⟩) hA0.out ?_;rotate_left 1; · (intro w' hS';(obtain ⟨hEs',hcs',hfs'⟩:=hS');go_simp;try with_reducible rfl))
   (refine wpHd_take (i:=18) (v:= ?_) rfl (by kernel_rfl) (by kernel_rfl) (by kernel_rfl) (fun _ _ _ h=>h) (Or.inl ⟨by rfl, ?_⟩) hA0.out ?_;rotate_left 1; · (intro w' hS';(obtain ⟨hEs',hcs',hfs'⟩:=hS');go_simp;try with_reducible rfl))
   (refine wpHd_take (i:=19) (v:= ?_) rfl (by kernel_rfl) (by kernel_rfl) (by kernel_rfl) (fun _ _ _ h=>h) (Or.inl ⟨by rfl, ?_⟩) hA0.out ?_;rotate_left 1; · (intro w' hS';(obtain ⟨hEs',hcs',hfs'⟩:=hS');go_simp;try with_reducible rfl))
   (refine wpHd_take (i:=20) (v:= ?_) rfl (by kernel_rfl) (by kernel_rfl) (by kernel_rfl) (fun _ _ _ h=>h) (Or.inl ⟨by rfl, ?_⟩) hA0.out ?_;rotate_left 1; · (intro w' hS';(obtain ⟨hEs',hcs',hfs'⟩:=hS');go_simp;try with_reducible rfl))
   refine wpHd_one (i:=21) rfl rfl (by kernel_rfl) (fun K hK=> ?_)
   go_simp
   refine hK.out _ _ (held_of (by exact eX)) (fun hA=> ?_)
   clear hK K hA hA0
   refine wpHd_tail (by kernel_rfl) ?_
   simp only [List.drop_succ_cons,List.drop_zero]
   have hob:=owns_ne hown.out (show w.heap.size+1+1<w.heap.size+3 by omega)
   go_wp2_with (at_builtin;refine wpList_append_lies _ rfl _ _ 70 rfl (w.heap.size+3) 153 i0 _ 3 24 Tryz.underlying70 hi hz0 hz1 hz2 rfl (by decide) _ _ _ rfl (owns_ext hown.out (by exact eX)) ⟨_,0,none⟩ 1 1 c.cells rfl rfl ?c1 ?c2 (by decide) ?c3 ?c4 ?c5 _ rfl ?_)
   case c1=>exact cells_new _ #[.string c.nm, .int .u8 c.ty, .bool c.key] _
   case c2=>intro u hu;simp [Col.cells] at hu;rcases hu with rfl|rfl|rfl<;>rfl
   case c3=>unfold maxLen;omega
   case c4=>omega
   case c5=>simp;omega
   intro g' cap' w2 hown' hgrow _ _
   have hE1:Ext wr (wr.drew.alloc (.cells #[.string c.nm, .int .u8 c.ty, .bool c.key] 153)):=by exact eX
   have HE2:Hid (Ext w w2):=Hm (Below.grown (hE.out.trans hE1) hgrow (hE.out.trans hE1).size (fun g hg=>by have:=(hown.out.lt g hg).1;omega))
   have hsz2:=hgrow.size
   have HB0' :=Hm ((HB0.out.ext hE1).grown hgrow (owns_ne hown.out (by omega)))
   have HB1' :=Hm ((HB1.out.ext hE1).grown hgrow (owns_ne hown.out (by omega)))
   have hB2' :=(HB2.out.ext hE1).grown hgrow hob
   have g2' :=hB2'.cell
   have g2f:=hB2'.frozen
   have z2' :=hB2'.lt
   have HB2' :=Hm hB2'
   have HO:=Hm hown'
   clear hB2' hown' hgrow hE1 hob
   go_wp2
   go_roundw
   case rel=>exact ⟨k+1,_,by omega,by go_num,Hm (by rw [hT.out];exact owns_set (p:=⟨w.heap.size+1+1,4,none⟩) HO.out (by show w.heap.size+1+1<_;omega) _),HB0'.out.other _ _ (by show w.heap.size≠w.heap.size+1+1;omega),HB1'.out.other _ _ (by show w.heap.size+1≠w.heap.size+1+1;omega),HB2'.out.set 4 _,Hm (HE2.out.setCell (by simp;omega) _)⟩
   case measure=>simp [intOf];omega
  ·have hkk:k=cols.length:=by omega
   subst hkk
   rw [show cols.length=(cols.map Col.cells).length by simp,List.take_length] at hown
   rw [List.length_map] at hown
   obtain ⟨a',c',rfl⟩:=owns_shape hown.out
   have g0:=hB0.cell
   have z0:=hB0.lt
   have g1:=hB1.cell
   have g1f:=hB1.frozen
   have g2:=hB2.cell
   have z1:=hB1.lt
   have z2:=hB2.lt
   clear hB0 hB1 hB2
   go_wp2
   simp [bodyPost,results,Tryz.results31,go_sem, *]
   refine ⟨_,_,⟨rfl,rfl⟩,owns_cap hown.out,owns_base (base:=w.heap.size+3) ?_ (by omega), ?_⟩
   ·have hown:=hown.out
    repeat (with_reducible (first|exact hown|refine owns_set ?_ (by show w.heap.size+1<_;omega) _))
   ·have hE:=hE.out
    exact eX
theorem right8_big (oid ver:Int) (nm:ByteArray) (id:Int) (cols:List Col) (a:Option Addr) (cap:Nat) (w:World) (hl:Sl w (.slice a cols.length cap) 3 (cols.map Col.cells)) (hcap:cols.length≤cap) (hlen:cols.length≤9223372036854775807)
 (hnm:nm.size≤9223372036854775807) (hcs:∀c∈cols,c.nm.size≤9223372036854775807):
 Calls Tryz.prog 63 #[.agg #[.int .u32 oid, .int .u32 ver, .string nm, .int .u8 id, .slice a cols.length cap]] w fun e w' =>e= .returned (.int .i64 (⟨oid,ver,nm,id,cols⟩:Rl).right)∧Ext w w' :=by
 have HN:=Hm (fun w=>named_any nm w hnm)
 have HK0:=Hm (fun (hn:cols.length≤1000) W (h:Ext w W)=>keyed_any oid ver nm id cols a cap W (hl.ext h) hn)
 have HL:=Hm hl
 have HCS:=Hm hcs
 clear hl hcs
 by_cases h1:oid=0
 ·have HR:=Hm (show (⟨oid,ver,nm,id,cols⟩:Rl).right=4 by unfold Rl.right;rw [if_pos (.inl h1)])
  have e1:(oid==0)=true:=by simpa using h1
  clear h1
  go_enter Tryz.func63,Tryz.ntmps63
  go_wp2
  go_ret
  exact ⟨ret_int HR.out.symm,by exact eX⟩
 have e1:(oid==0)=false:=by simpa using h1
 by_cases h2:ver=0
 ·have HR:=Hm (show (⟨oid,ver,nm,id,cols⟩:Rl).right=4 by unfold Rl.right;rw [if_pos (.inr h2)])
  have e2:(ver==0)=true:=by simpa using h2
  clear h2 h1
  go_enter Tryz.func63,Tryz.ntmps63
  go_wp2
  go_ret
  exact ⟨ret_int HR.out.symm,by exact eX⟩
 have e2:(ver==0)=false:=by simpa using h2
 cases h3:namedB nm with
 |false=>
  have HR:=Hm (show (⟨oid,ver,nm,id,cols⟩:Rl).right=3 by unfold Rl.right;rw [if_neg (by simp only;omega),if_pos h3])
  rw [h3] at HN
  clear h3 h2 h1
  go_enter Tryz.func63,Tryz.ntmps63
  go_wp2_with (go_at_call 87;refine (HN.out _).mono ?_;rintro e w1 ⟨rfl,rfl⟩)
  go_ret
  exact ⟨ret_int HR.out.symm,by exact eX⟩
 |true=>
 by_cases h4:2<id
 ·have HR:=Hm (show (⟨oid,ver,nm,id,cols⟩:Rl).right=7 by unfold Rl.right;rw [if_neg (by simp only;omega),if_neg (by simp only [h3];simp),if_pos h4])
  rw [h3] at HN
  clear h3 h2 h1
  go_enter Tryz.func63,Tryz.ntmps63
  go_wp2_with (go_at_call 87;refine (HN.out _).mono ?_;rintro e w1 ⟨rfl,rfl⟩)
  go_ret
  exact ⟨ret_int HR.out.symm,by exact eX⟩
 by_cases h5:cols.length<1
 ·have HR:=Hm (show (⟨oid,ver,nm,id,cols⟩:Rl).right=17 by unfold Rl.right;rw [if_neg (by simp only;omega),if_neg (by simp only [h3];simp),if_neg (by simp only;omega),if_pos (.inl h5)])
  have h4' :id≤2:=by omega
  rw [h3] at HN
  clear h3 h2 h1
  go_enter Tryz.func63,Tryz.ntmps63
  go_wp2_with (go_at_call 87;refine (HN.out _).mono ?_;rintro e w1 ⟨rfl,rfl⟩)
  go_ret
  exact ⟨ret_int HR.out.symm,by exact eX⟩
 by_cases h6:16<cols.length
 ·have HR:=Hm (show (⟨oid,ver,nm,id,cols⟩:Rl).right=17 by unfold Rl.right;rw [if_neg (by simp only;omega),if_neg (by simp only [h3];simp),if_neg (by simp only;omega),if_pos (.inr h6)])
  have h4' :id≤2:=by omega
  have h5' :1≤cols.length:=by omega
  rw [h3] at HN
  clear h3 h2 h1
  go_enter Tryz.func63,Tryz.ntmps63
  go_wp2_with (go_at_call 87;refine (HN.out _).mono ?_;rintro e w1 ⟨rfl,rfl⟩)
  go_ret
  exact ⟨ret_int HR.out.symm,by exact eX⟩
 have hlen:cols.length≤1000:=by omega
 have HK:=Hm (HK0.out hlen)
 clear HK0
 have HR:=Hm (Rl.right_cols (r:=(⟨oid,ver,nm,id,cols⟩:Rl)) h1 h2 h3 (by simp only;omega) (by simp only;omega) (by simp only;omega))
 simp only at HR
 rw [h3] at HN
 have h4' :id≤2:=by omega
 have h5' :1≤cols.length:=by omega
 have h6' :cols.length≤16:=by omega
 clear h3 h2 h1 h4 h5 h6
 go_enter Tryz.func63,Tryz.ntmps63
 go_wp2_with (go_at_call 87;refine (HN.out _).mono ?_;rintro e w1 ⟨rfl,rfl⟩)
 go_loopw [40] (fun i wr=>∃k:Nat,k≤cols.length∧i= .int .i64 k∧Hid (∀j,j<k→colAt cols j=0)∧Hid (Ext (w.alloc (.cells #[.int .u32 oid, .int .u32 ver, .string nm, .int .u8 id, .slice a cols.length cap] 72)) wr)) (fun i _=>cols.length - (intOf i).toNat)
 case atStart=>exact ⟨0,Nat.zero_le _,rfl,fun j h=>by omega,Ext.refl _⟩
 case round=>
  obtain ⟨k,hk,rfl,hrel,hE⟩:=hrel
  have hBx:=(Blk.new w #[.int .u32 oid, .int .u32 ver, .string nm, .int .u8 id, .slice a cols.length cap] 72).ext hE.out
  have g0:=hBx.cell
  have z0:=hBx.lt
  clear hBx
  by_cases hlt:k<cols.length
  ·obtain ⟨b,o,rfl,hb,hx⟩:=HL.out.at_ (i:=k) (by simpa using hlt)
   have hEw:Hid (Ext w wr):=Hm (((Ext.refl w).alloc _).trans hE.out)
   obtain ⟨f0,f1,f2⟩:=Col.at_ hlt hx hb hEw.out
   have hbw:b<wr.heap.size:=Nat.lt_of_lt_of_le hb hEw.out.size
   have HF:=Hm (fun W (h:Ext wr W)=>column_any cols[k] (cols.take k) (some ⟨b,o,none⟩) k cap W (by rw [List.length_take];omega) (by have:=(HL.out.ext (hEw.out.trans h)).take (i:=k) (by rw [List.length_map];omega);rwa [←List.map_take] at this) (by rw [List.length_take];omega) (HCS.out _ (List.getElem_mem hlt)))
   have hAt:=colAt_lt hlt
   have q1:(0:Int)≤(k:Int):=by omega
   have q2:(k:Int)≤(cap:Int):=by omega
   obtain ⟨E,hE0⟩:∃E,E=colE cols[k] (cols.take k):=⟨_,rfl⟩
   rw [←hE0] at HF hAt
   have HAt:=Hm hAt
   clear hx hAt hE0
   by_cases h0:E=0
   ·subst h0
    go_wp2
    go_region_held3 (fun w' =>Ext (wr.alloc (.cells #[.string cols[k].nm, .int .u8 cols[k].ty, .bool cols[k].key] 153)) w'∧(∀b o,b<(wr.alloc (.cells #[.string cols[k].nm, .int .u8 cols[k].ty, .bool cols[k].key] 153)).heap.size→w'.cell? ⟨b,o,none⟩=(wr.alloc (.cells #[.string cols[k].nm, .int .u8 cols[k].ty, .bool cols[k].key] 153)).cell? ⟨b,o,none⟩)∧(∀b o,b<(wr.alloc (.cells #[.string cols[k].nm, .int .u8 cols[k].ty, .bool cols[k].key] 153)).heap.size→w'.frozen? ⟨b,o,none⟩=(wr.alloc (.cells #[.string cols[k].nm, .int .u8 cols[k].ty, .bool cols[k].key] 153)).frozen? ⟨b,o,none⟩)) ((exact held_of (by exact eX)))
     (first
      |(go_at_call 88;refine (HF.out _ (by exact eX)).mono ?_;rintro e w2 ⟨rfl,hb2⟩))
    go_wp2
    go_roundw
    case rel=>exact ⟨k+1,by omega,by go_num,fun j hj=>by
     by_cases e:j=k
     ·subst e;exact HAt.out
     ·exact hrel.out j (by omega),Hm (hE.out.trans (by exact eX))⟩
    case measure=>simp [intOf];omega
   ·have h0' :(E !=0)=true:=by simpa using h0
    have HR2:=Hm (show (⟨oid,ver,nm,id,cols⟩:Rl).right=E by rw [HR.out,firstE_at hrel.out hlt (by rw [HAt.out];exact h0),HAt.out,if_pos h0])
    clear h0
    go_wp2
    go_region_held3 (fun w' =>Ext (wr.alloc (.cells #[.string cols[k].nm, .int .u8 cols[k].ty, .bool cols[k].key] 153)) w'∧(∀b o,b<(wr.alloc (.cells #[.string cols[k].nm, .int .u8 cols[k].ty, .bool cols[k].key] 153)).heap.size→w'.cell? ⟨b,o,none⟩=(wr.alloc (.cells #[.string cols[k].nm, .int .u8 cols[k].ty, .bool cols[k].key] 153)).cell? ⟨b,o,none⟩)∧(∀b o,b<(wr.alloc (.cells #[.string cols[k].nm, .int .u8 cols[k].ty, .bool cols[k].key] 153)).heap.size→w'.frozen? ⟨b,o,none⟩=(wr.alloc (.cells #[.string cols[k].nm, .int .u8 cols[k].ty, .bool cols[k].key] 153)).frozen? ⟨b,o,none⟩)) ((exact held_of (by exact eX)))
     (first
      |(go_at_call 88;refine (HF.out _ (by exact eX)).mono ?_;rintro e w2 ⟨rfl,hb2⟩))
    go_wp2
    go_ret
    exact ⟨ret_int HR2.out.symm,hEw.out.trans (by exact eX)⟩
  ·have hkk:k=cols.length:=by omega
   have hEw:Hid (Ext w wr):=Hm (((Ext.refl w).alloc _).trans hE.out)
   have HR2:=Hm (show (⟨oid,ver,nm,id,cols⟩:Rl).right=if id=1∧cols.any Col.key=false then 13 else 0 by rw [HR.out,firstE_zero (fun i hi=>hrel.out i (by omega)),if_neg (by simp)])
   subst hkk
   clear hrel HR
   by_cases h7:id=1
   ·subst h7
    cases h8:cols.any Col.key with
    |false=>
     rw [h8] at HK HR2
     clear h8
     go_wp2_with (go_at_call 89;refine (HK.out _ hEw.out).mono ?_;rintro e w2 ⟨rfl,hb2⟩)
     go_ret
     exact ⟨ret_int (by rw [HR2.out];simp),hEw.out.trans (by exact eX)⟩
    |true=>
     rw [h8] at HK HR2
     clear h8
     go_wp2_with (go_at_call 89;refine (HK.out _ hEw.out).mono ?_;rintro e w2 ⟨rfl,hb2⟩)
     go_ret
     exact ⟨ret_int (by rw [HR2.out];simp),hEw.out.trans (by exact eX)⟩
   ·have e7:(id==1)=false:=by simpa using h7
    have HR3:=Hm (HR2.out.trans (if_neg (fun h=>h7 h.1)))
    clear h7 HR2
    go_wp2
    go_ret
    exact ⟨ret_int HR3.out.symm,hEw.out⟩
structure EL where
 e:Ev
 ba:Option Addr
 bc:Nat
 aa:Option Addr
 ac:Nat
 ra:Option Addr
 rc:Nat
def EL.vals (x:EL):List Value:= [.int .u8 x.e.kind, .int .u32 x.e.ao, .int .u32 x.e.av, .int .u8 x.e.old, .slice x.ba x.e.b.length x.bc, .slice x.aa x.e.a.length x.ac, .slice x.ra x.e.rs.length x.rc, .int .u8 x.e.fl]
def EL.agg (x:EL):Value:= .agg #[.int .u8 x.e.kind, .int .u32 x.e.ao, .int .u32 x.e.av, .int .u8 x.e.old, .slice x.ba x.e.b.length x.bc, .slice x.aa x.e.a.length x.ac, .slice x.ra x.e.rs.length x.rc, .int .u8 x.e.fl]
abbrev Kr (n:Nat) (f:K→List Value) (W:World) (a:Option Addr) (c:Nat) (l:List K):Prop:=Sl W (.slice a l.length c) n (l.map f)
structure EL.at (n:Nat) (f:K→List Value) (W:World) (x:EL):Prop where
 b:Kr n f W x.ba x.bc x.e.b
 a:Kr n f W x.aa x.ac x.e.a
 r:Sl W (.slice x.ra x.e.rs.length x.rc) 2 (x.e.rs.map Rf.cells)
structure EL.on (S:Nat→Prop) (x:EL):Prop where
 b:x.e.b≠ []→∀b o,x.ba=some ⟨b,o,none⟩→S b
 a:x.e.a≠ []→∀b o,x.aa=some ⟨b,o,none⟩→S b
 r:x.e.rs≠ []→∀b o,x.ra=some ⟨b,o,none⟩→S b
theorem map_ne {α β:Type} {f:α→β} {l:List α} (h:l.map f≠ []):l≠ []:=fun e=>h (by rw [e];rfl)
theorem Sl.lt {W:World} {b n c k:Nat} {xss:List (List Value)} {o' :Nat} (h:Sl W (.slice (some ⟨b,o',none⟩) n c) k xss) (h0:xss≠ []):b<W.heap.size:=by
 obtain ⟨b2,o2,e,hb, -⟩:=h.at_ (i:=0) (List.length_pos_iff.2 h0)
 simp only [Option.some.injEq,Addr.mk.injEq] at e
 rw [e.1];exact hb
section
variable {S T : Nat → Prop} {n : Nat} {f : K → List Value} {W W' : World} {x : EL}
theorem EL.on.mono (h:x.on S) (hs:∀b,S b→T b):x.on T:=⟨fun h0 b o e=>hs b (h.b h0 b o e),fun h0 b o e=>hs b (h.a h0 b o e),fun h0 b o e=>hs b (h.r h0 b o e)⟩
theorem EL.on.and (h:x.on S) (k:x.on T):x.on (fun b=>S b∧T b):=⟨fun h0 b o e=>⟨h.b h0 b o e,k.b h0 b o e⟩,fun h0 b o e=>⟨h.a h0 b o e,k.a h0 b o e⟩,fun h0 b o e=>⟨h.r h0 b o e,k.r h0 b o e⟩⟩
theorem EL.at.ext (h:x.at n f W) (he:Ext W W'):x.at n f W' :=⟨h.b.ext he,h.a.ext he,h.r.ext he⟩
theorem EL.at.kp (h:x.at n f W) (hk:Kp S W W') (hs:x.on (fun b=> ¬ S b)):x.at n f W' :=⟨h.b.kp hk (fun h0=>hs.b (map_ne h0)),h.a.kp hk (fun h0=>hs.a (map_ne h0)),h.r.kp hk (fun h0=>hs.r (map_ne h0))⟩
theorem EL.at.lt (h:x.at n f W):x.on (fun b=>b<W.heap.size):=
 ⟨fun h0 b o e=>Sl.lt (by have:=h.b;unfold Kr at this;rw [e] at this;exact this) (fun q=>h0 (by simpa using q)),fun h0 b o e=>Sl.lt (by have:=h.a;unfold Kr at this;rw [e] at this;exact this) (fun q=>h0 (by simpa using q)),fun h0 b o e=>Sl.lt (by have:=h.r;rw [e] at this;exact this) (fun q=>h0 (by simpa using q))⟩
end
theorem EL.at_ {w wr:World} {b o:Nat} {l:List EL} {k:Nat} (hk:k<l.length) (hc:∀j,j<8→w.cell? ⟨b,o+k*8+j,none⟩=((l.map EL.vals).getD k [])[j]?) (hb:b<w.heap.size) (hE:Ext w wr):
 wr.cell? ⟨b,o+k*8,none⟩=some (.int .u8 l[k].e.kind)∧wr.cell? ⟨b,o+k*8+1,none⟩=some (.int .u32 l[k].e.ao)∧wr.cell? ⟨b,o+k*8+2,none⟩=some (.int .u32 l[k].e.av)∧wr.cell? ⟨b,o+k*8+3,none⟩=some (.int .u8 l[k].e.old)∧
  wr.cell? ⟨b,o+k*8+4,none⟩=some (.slice l[k].ba l[k].e.b.length l[k].bc)∧wr.cell? ⟨b,o+k*8+5,none⟩=some (.slice l[k].aa l[k].e.a.length l[k].ac)∧wr.cell? ⟨b,o+k*8+6,none⟩=some (.slice l[k].ra l[k].e.rs.length l[k].rc)∧wr.cell? ⟨b,o+k*8+7,none⟩=some (.int .u8 l[k].e.fl):=by
 rw [getD_map EL.vals l hk] at hc
 have c:=hE.cells.1 b
 exact ⟨(c _ hb).trans (hc 0 (by omega)),(c _ hb).trans (hc 1 (by omega)),(c _ hb).trans (hc 2 (by omega)),(c _ hb).trans (hc 3 (by omega)),(c _ hb).trans (hc 4 (by omega)),(c _ hb).trans (hc 5 (by omega)),(c _ hb).trans (hc 6 (by omega)),(c _ hb).trans (hc 7 (by omega))⟩
theorem EL.len (l:List EL):∀xs∈l.map EL.vals,xs.length=8:=by
 intro xs hxs
 rw [List.mem_map] at hxs
 obtain ⟨p,_,rfl⟩:=hxs
 rfl
theorem EL.one (x:EL):∀u∈x.vals,u.oneCell' =true:=by
 intro u hu
 simp [EL.vals] at hu
 rcases hu with rfl|rfl|rfl|rfl|rfl|rfl|rfl|rfl<;>rfl
structure ES (n:Nat) (f:K→List Value) (W:World) (v:Value) (xs:List EL):Prop where
 row:Sl W v 8 (xs.map EL.vals)
 sl:∀x∈xs,x.at n f W
section
variable {S T : Nat → Prop} {n : Nat} {f : K → List Value} {W W' : World} {xs : List EL} {v : Value}
theorem ES.ext (h:ES n f W v xs) (he:Ext W W'):ES n f W' v xs:=⟨h.row.ext he,fun x hx=>(h.sl x hx).ext he⟩
theorem ES.kp {a:Option Addr} {m c:Nat} (h:ES n f W (.slice a m c) xs) (hk:Kp S W W') (hs:xs≠ []→∀b o,a=some ⟨b,o,none⟩→¬ S b) (hx:∀x∈xs,x.on (fun b=> ¬ S b)):ES n f W' (.slice a m c) xs:=
 ⟨h.row.kp hk (fun h0=>hs (map_ne h0)),fun x hm=>(h.sl x hm).kp hk (hx x hm)⟩
end
structure OwnE (n:Nat) (f:K→List Value) (T:TypeId) (W:World) (N:Nat) (es:List Ev) (v:Value) (qs:List EL):Prop where
 own:W.ownsRow N T 8 v qs.length (qs.map EL.vals).flatten
 e:qs.map EL.e=es
 sl:∀q∈qs,q.at n f W
 ne:∀q∈qs,q.on (fun b=>N≤b∧v.ownBlock≠some b)
section
variable {S : Nat → Prop} {n : Nat} {f : K → List Value} {T : TypeId} {W W' : World} {N : Nat} {es : List Ev} {v v' : Value} {qs : List EL} {q : EL}
theorem OwnE.nil (W:World) (N:Nat):OwnE n f T W N [] (.slice none 0 0) []:=⟨World.ownsRow_nil _ _ _ _,rfl,(fun q h=>by cases h),(fun q h=>by cases h)⟩
theorem OwnE.len (h:OwnE n f T W N es v qs):qs.length=es.length:=by rw [←h.e,List.length_map]
theorem OwnE.kp (h:OwnE n f T W N es v qs) (hk:Kp S W W') (h1:∀b,v.ownBlock=some b→¬ S b) (h2:∀q∈qs,q.on (fun b=> ¬ S b)):OwnE n f T W' N es v qs:=
 ⟨owns_kp h.own hk h1,h.e,fun q hq=>(h.sl q hq).kp hk (h2 q hq),h.ne⟩
theorem OwnE.ext (h:OwnE n f T W N es v qs) (he:Ext W W'):OwnE n f T W' N es v qs:=
 ⟨owns_ext h.own he,h.e,fun q hq=>(h.sl q hq).ext he,h.ne⟩
theorem OwnE.low (h:OwnE n f T W N es v qs) (hk:Kp S W W') (h1:∀b,S b→b<N∨W.heap.size≤b):OwnE n f T W' N es v qs:=
 h.kp hk (fun b hb hs=>by have:=owns_lt3 h.own hb;have:=h1 b hs;omega) (fun q hq=>((h.ne q hq).and (h.sl q hq).lt).mono (fun b hb hs=>by have:=h1 b hs;omega))
theorem OwnE.base (h:OwnE n f T W N es v qs) {M:Nat} (hm:M≤N):OwnE n f T W M es v qs:=⟨owns_base h.own hm,h.e,h.sl,fun q hq=>(h.ne q hq).mono (fun b hb=>⟨by omega,hb.2⟩)⟩
theorem OwnE.push (h:OwnE n f T W N es v qs) (hs:q.at n f W) (hn:q.on (fun b=>N≤b∧v.ownBlock≠some b))
 (hg:W.grownBy W' v.ownBlock) (hat:v'.ownBlock=v.ownBlock∨v'.ownBlock=some W.heap.size) (ho:W'.ownsRow N T 8 v' (qs.length+1) ((qs.map EL.vals).flatten++q.vals)):OwnE n f T W' N (es++ [q.e]) v' (qs++ [q]):=by
 have hall:∀x∈qs++ [q],x.at n f W∧x.on (fun b=>N≤b∧v.ownBlock≠some b):=fun x hx=>by
  rcases List.mem_append.1 hx with hx|hx
  ·exact ⟨h.sl x hx,h.ne x hx⟩
  ·obtain rfl:x=q:=by simpa using hx
   exact ⟨hs,hn⟩
 refine ⟨by simpa using ho,by rw [List.map_append,h.e];rfl,fun x hx=>(hall x hx).1.kp (Kp.of_grown hg) ((hall x hx).2.mono (fun b hb=>hb.2)),fun x hx=>((hall x hx).2.and (hall x hx).1.lt).mono (fun b hb=>⟨hb.1.1, ?_⟩)⟩
 rcases hat with h4|h4
 ·rw [h4];exact hb.1.2
 ·rw [h4];intro h5;injection h5 with h5
  have:=hb.2;omega
theorem OwnE.row (h:OwnE n f T W N es v qs):ES n f W v qs:=⟨Sl.of_owns (base:=N) (e:=T) (by rw [List.length_map];exact h.own) (EL.len qs),h.sl⟩
end
end Go.Proofs.YtgmphpccpfaapaaGreatDoor
