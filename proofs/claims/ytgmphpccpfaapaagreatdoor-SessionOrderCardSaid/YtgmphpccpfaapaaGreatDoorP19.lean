/-
A copy of an event; the refs that an event uses, the program's answer and the reference's.
-/
import Derived.Test.YtgmphpccpfaapaaGreatDoorP18
import Derived.Test.YtgmphpccpfaapaaGreatDoorP4
import Derived.Test.YtgmphpccpfaapaaGreatDoorP7
import Derived.Test.YtgmphpccpfaapaaGreatDoorP13
import Derived.Test.YtgmphpccpfaapaaGreatDoorP2
set_option maxRecDepth 100000
set_option maxHeartbeats 16000000
namespace Go.Proofs.YtgmphpccpfaapaaGreatDoor
open Go.RowKit
structure EL.owned (N:Nat) (W:World) (y:EL):Prop where
 b:W.ownsRow N 164 5 (.slice y.ba y.e.b.length y.bc) y.e.b.length ((y.e.b.map K.pc).flatten)
 a:W.ownsRow N 164 5 (.slice y.aa y.e.a.length y.ac) y.e.a.length ((y.e.a.map K.pc).flatten)
 r:W.ownsRow N 69 2 (.slice y.ra y.e.rs.length y.rc) y.e.rs.length ((y.e.rs.map Rf.cells).flatten)
def usesE (e:Ev):List Rf:=if rowedB e.kind=true then [⟨e.ao,e.av⟩] else if e.kind=7 then e.rs else []
theorem ecopy_any (x:EL) (w:World) (hx:x.at 5 K.pc w) (hs:x.e.small):
 Calls Tryz.prog 70 #[x.agg] w fun e w' =>∃y:EL,e= .returned y.agg∧y.e=x.e∧y.owned w.heap.size w'∧Ext w w' :=by
 obtain ⟨⟨k1,ao1,av1,old1,b1,a1,r1,fl1⟩,ba1,bc1,aa1,ac1,ra1,rc1⟩:=x
 have HCB:=Hm (fun W (h:Ext w W)=>clonek_any b1 ba1 bc1 W (hx.b.ext h) hs.b)
 have HCA:=Hm (fun W (h:Ext w W)=>clonek_any a1 aa1 ac1 W (hx.a.ext h) hs.a)
 have HCR:=Hm (fun W (h:Ext w W)=>clonef_any r1 ra1 rc1 W (hx.r.ext h) hs.r)
 unfold EL.agg
 simp only
 clear hx hs
 go_enter Tryz.func70,Tryz.ntmps70
 go_upto_region 1 with (fail)
 have hV:Blk ((w.alloc (.cells #[.int .u8 k1, .int .u32 ao1, .int .u32 av1, .int .u8 old1, .slice ba1 b1.length bc1, .slice aa1 a1.length ac1, .slice ra1 r1.length rc1, .int .u8 fl1] 77)).alloc (.cells #[.int .u8 0, .int .u32 0, .int .u32 0, .int .u8 0, .slice none 0 0, .slice none 0 0, .slice none 0 0, .int .u8 0] 77)) w.heap.size #[.int .u8 k1, .int .u32 ao1, .int .u32 av1, .int .u8 old1, .slice ba1 b1.length bc1, .slice aa1 a1.length ac1, .slice ra1 r1.length rc1, .int .u8 fl1] 77:=(Blk.new w #[.int .u8 k1, .int .u32 ao1, .int .u32 av1, .int .u8 old1, .slice ba1 b1.length bc1, .slice aa1 a1.length ac1, .slice ra1 r1.length rc1, .int .u8 fl1] 77).alloc _
 have hZ:Blk ((w.alloc (.cells #[.int .u8 k1, .int .u32 ao1, .int .u32 av1, .int .u8 old1, .slice ba1 b1.length bc1, .slice aa1 a1.length ac1, .slice ra1 r1.length rc1, .int .u8 fl1] 77)).alloc (.cells #[.int .u8 0, .int .u32 0, .int .u32 0, .int .u8 0, .slice none 0 0, .slice none 0 0, .slice none 0 0, .int .u8 0] 77)) (w.heap.size+1) #[.int .u8 0, .int .u32 0, .int .u32 0, .int .u8 0, .slice none 0 0, .slice none 0 0, .slice none 0 0, .int .u8 0] 77:=Blk.new' (w:=w.alloc (.cells #[.int .u8 k1, .int .u32 ao1, .int .u32 av1, .int .u8 old1, .slice ba1 b1.length bc1, .slice aa1 a1.length ac1, .slice ra1 r1.length rc1, .int .u8 fl1] 77)) _ _ (by simp)
 have hE:Ext w ((w.alloc (.cells #[.int .u8 k1, .int .u32 ao1, .int .u32 av1, .int .u8 old1, .slice ba1 b1.length bc1, .slice aa1 a1.length ac1, .slice ra1 r1.length rc1, .int .u8 fl1] 77)).alloc (.cells #[.int .u8 0, .int .u32 0, .int .u32 0, .int .u8 0, .slice none 0 0, .slice none 0 0, .slice none 0 0, .int .u8 0] 77)):=by exact eX
 obtain ⟨w0,hw0⟩:∃w0,w0=(w.alloc (.cells #[.int .u8 k1, .int .u32 ao1, .int .u32 av1, .int .u8 old1, .slice ba1 b1.length bc1, .slice aa1 a1.length ac1, .slice ra1 r1.length rc1, .int .u8 fl1] 77)).alloc (.cells #[.int .u8 0, .int .u32 0, .int .u32 0, .int .u8 0, .slice none 0 0, .slice none 0 0, .slice none 0 0, .int .u8 0] 77):=⟨_,rfl⟩
 have hz0:w0.heap.size=w.heap.size+1+1:=by rw [hw0];simp
 rw [←hw0] at hV hZ hE⊢
 have HV:=Hm hV
 have HZ:=Hm hZ
 have HE:=Hm hE
 have HZ0:=Hm hz0
 clear hw0 hV hZ hE hz0
 have gv:=HV.out.cell
 have gvf:=HV.out.frozen
 have zv:=HV.out.lt
 have hA0:Hid ((fun w' =>Ext (w0) w'∧(∀b o,b<(w0).heap.size→w'.cell? ⟨b,o,none⟩=(w0).cell? ⟨b,o,none⟩)∧(∀b o,b<(w0).heap.size→w'.frozen? ⟨b,o,none⟩=(w0).frozen? ⟨b,o,none⟩)) w0.drew):=held_of (by exact eX)
 refine wp_region_head 10 (fun w' =>Ext (w0) w'∧(∀b o,b<(w0).heap.size→w'.cell? ⟨b,o,none⟩=(w0).cell? ⟨b,o,none⟩)∧(∀b o,b<(w0).heap.size→w'.frozen? ⟨b,o,none⟩=(w0).frozen? ⟨b,o,none⟩)) (by kernel_rfl) (by decide) ?_
 (refine wpHd_take (i:=0) (v:= ?_) rfl (by kernel_rfl) (by kernel_rfl) (by kernel_rfl) (fun _ _ _ h=>h) (Or.inl ⟨by rfl, ?_⟩) hA0.out ?_;rotate_left 1; · (intro w' hS';(obtain ⟨hEs',hcs',hfs'⟩:=hS');go_simp;try with_reducible rfl))
 (refine wpHd_take (i:=1) (v:= ?_) rfl (by kernel_rfl) (by kernel_rfl) (by kernel_rfl) (fun _ _ _ h=>h) (Or.inl ⟨by rfl, ?_⟩) hA0.out ?_;rotate_left 1; · (intro w' hS';(obtain ⟨hEs',hcs',hfs'⟩:=hS');go_simp;try with_reducible rfl))
 (refine wpHd_take (i:=3) (v:= ?_) rfl (by kernel_rfl) (by kernel_rfl) (by kernel_rfl) (fun _ _ _ h=>h) (Or.inl ⟨by rfl, ?_⟩) hA0.out ?_;rotate_left 1; · (intro w' hS';(obtain ⟨hEs',hcs',hfs'⟩:=hS');go_simp;try with_reducible rfl))
 (refine wpHd_take (i:=4) (v:= ?_) rfl (by kernel_rfl) (by kernel_rfl) (by kernel_rfl) (fun _ _ _ h=>h) (Or.inl ⟨by rfl, ?_⟩) hA0.out ?_;rotate_left 1; · (intro w' hS';(obtain ⟨hEs',hcs',hfs'⟩:=hS');go_simp;try with_reducible rfl))
 (refine wpHd_take (i:=6) (v:= ?_) rfl (by kernel_rfl) (by kernel_rfl) (by kernel_rfl) (fun _ _ _ h=>h) (Or.inl ⟨by rfl, ?_⟩) hA0.out ?_;rotate_left 1; · (intro w' hS';(obtain ⟨hEs',hcs',hfs'⟩:=hS');go_simp;try with_reducible rfl))
 (refine wpHd_take (i:=7) (v:= ?_) rfl (by kernel_rfl) (by kernel_rfl) (by kernel_rfl) (fun _ _ _ h=>h) (Or.inl ⟨by rfl, ?_⟩) hA0.out ?_;rotate_left 1; · (intro w' hS';(obtain ⟨hEs',hcs',hfs'⟩:=hS');go_simp;try with_reducible rfl))
 refine wpHd_one (i:=2) rfl rfl (by kernel_rfl) (fun K hK=> ?_)
 go_simp
 refine (HCB.out _ (by have:=HE.out;exact eX)).mono ?_
 rintro e w2 ⟨b',bc',rfl,ho2,hb2⟩
 have HB2:=Hm (show Ext w0 w2 by exact eX)
 have HO2:=Hm ho2
 refine hK.out _ _ (held_of HB2.out) (fun hA=> ?_)
 clear hK K hA ho2 hb2 hA0
 have hA0:Hid ((fun w' =>Ext (w0) w'∧(∀b o,b<(w0).heap.size→w'.cell? ⟨b,o,none⟩=(w0).cell? ⟨b,o,none⟩)∧(∀b o,b<(w0).heap.size→w'.frozen? ⟨b,o,none⟩=(w0).frozen? ⟨b,o,none⟩)) w2):=held_of HB2.out
 (refine wpHd_take (i:=9) (v:= ?_) rfl (by kernel_rfl) (by kernel_rfl) (by kernel_rfl) (fun _ _ _ h=>h) (Or.inl ⟨by rfl, ?_⟩) hA0.out ?_;rotate_left 1; · (intro w' hS';(obtain ⟨hEs',hcs',hfs'⟩:=hS');go_simp;try with_reducible rfl))
 refine wpHd_one (i:=5) rfl rfl (by kernel_rfl) (fun K hK=> ?_)
 go_simp
 refine (HCA.out _ (HE.out.trans HB2.out)).mono ?_
 rintro e w5 ⟨a',ac',rfl,ho5,hb5⟩
 have HB5:=Hm hb5
 have HO5:=Hm ho5
 refine hK.out _ _ (held_of (HB2.out.trans HB5.out)) (fun hA=> ?_)
 clear hK K hA ho5 hb5 hA0
 refine wpHd_one (i:=8) rfl rfl (by kernel_rfl) (fun K hK=> ?_)
 go_simp
 refine (HCR.out _ (HE.out.trans (HB2.out.trans HB5.out))).mono ?_
 rintro e w8 ⟨r',rc',rfl,ho8,hb8⟩
 have HB8:=Hm hb8
 have HO8:=Hm ho8
 refine hK.out _ _ (held_of (HB2.out.trans (HB5.out.trans HB8.out))) (fun hA=> ?_)
 clear hK K hA ho8 hb8
 refine wpHd_tail (by kernel_rfl) ?_
 simp only [List.drop_succ_cons,List.drop_zero]
 have HV8:=Hm (HV.out.ext (HB2.out.trans (HB5.out.trans HB8.out)))
 have HZ8:=Hm (HZ.out.ext (HB2.out.trans (HB5.out.trans HB8.out)))
 have HE8:=Hm (HE.out.trans (HB2.out.trans (HB5.out.trans HB8.out)))
 clear gv gvf zv
 have gv:=HV8.out.cell
 have gvf:=HV8.out.frozen
 have zv:=HV8.out.lt
 have gz:=HZ8.out.cell
 have gzf:=HZ8.out.frozen
 have zz:=HZ8.out.lt
 go_wp2
 simp [bodyPost,results,Tryz.results70,go_sem, *]
 have h0:=HZ0.out
 have h2:=HB2.out.size
 have h5:=HB5.out.size
 have hE8:=HE8.out
 refine ⟨⟨⟨k1,ao1,av1,old1,b1,a1,r1,fl1⟩,b',bc',a',ac',r',rc'⟩,⟨rfl,rfl,rfl,rfl,⟨rfl,rfl,rfl⟩,⟨rfl,rfl,rfl⟩,⟨rfl,rfl,rfl⟩,rfl⟩,rfl,⟨?_, ?_, ?_⟩,by exact eX⟩
 ·refine owns_base (base:=w0.heap.size) ?_ (by omega)
  repeat (with_reducible refine owns_set ?_ (by dsimp only;omega) _)
  exact owns_ext HO2.out (HB5.out.trans HB8.out)
 ·refine owns_base (base:=w2.heap.size) ?_ (by omega)
  repeat (with_reducible refine owns_set ?_ (by dsimp only;omega) _)
  exact owns_ext HO5.out HB8.out
 ·refine owns_base (base:=w5.heap.size) ?_ (by omega)
  repeat (with_reducible refine owns_set ?_ (by dsimp only;omega) _)
  exact HO8.out
theorem one_owns {W:World} {N:Nat} (o v:Int) (hN:N≤W.heap.size):(W.alloc (.cells #[.int .u32 o, .int .u32 v] 69)).ownsRow N 69 2 (.slice (some ⟨W.heap.size,0,none⟩) 1 1) 1 ((([⟨o,v⟩]:List Rf).map Rf.cells).flatten):=
 ⟨rfl, .inr ⟨W.heap.size,1, #[.int .u32 o, .int .u32 v],rfl,hN,Blk.new W _ _,Nat.le_refl _,by unfold maxLen;omega,rfl,rfl⟩⟩
theorem euses_any (x:EL) (w:World) (hx:x.at 5 K.pc w) (hs:x.e.small):
 Calls Tryz.prog 35 #[x.agg] w fun e w' =>∃(a' :Option Addr) (n c' :Nat),e= .returned (.slice a' n c')∧n=(usesE x.e).length∧w'.ownsRow w.heap.size 69 2 (.slice a' n c') n ((usesE x.e).map Rf.cells).flatten∧Ext w w' :=by
 have HRW:=Hm (fun W=>rowed_any x W)
 obtain ⟨⟨k1,ao1,av1,old1,b1,a1,r1,fl1⟩,ba1,bc1,aa1,ac1,ra1,rc1⟩:=x
 have HCR:=Hm (fun W (h:Ext w W)=>clonef_any r1 ra1 rc1 W (hx.r.ext h) hs.r)
 unfold EL.agg at HRW⊢
 simp only at HRW⊢
 clear hx hs
 cases hr:rowedB k1 with
 |true=>
  have HU:=Hm (show usesE ⟨k1,ao1,av1,old1,b1,a1,r1,fl1⟩= [⟨ao1,av1⟩] from if_pos hr)
  rw [hr] at HRW
  clear hr
  go_enter Tryz.func35,Tryz.ntmps35
  go_wp2_with (go_at_call 68;refine (HRW.out _).mono ?_;rintro e w1 ⟨rfl,hb1⟩;(have hE_w1:Ext (w.alloc (.cells #[.int .u8 k1, .int .u32 ao1, .int .u32 av1, .int .u8 old1, .slice ba1 b1.length bc1, .slice aa1 a1.length ac1, .slice ra1 r1.length rc1, .int .u8 fl1] 77)) w1:=(by exact eX);obtain ⟨hc_w1,hf_w1⟩:=hE_w1.cells;have hz_w1:=hE_w1.size);have HB1:=Hm hb1)
  go_ret
  refine ⟨_,_,_,rfl,by rw [HU.out];rfl, ?_,by exact eX⟩
  rw [HU.out]
  exact one_owns ao1 av1 (by have:=HB1.out.size;simp at this;omega)
 |false=>
  rw [hr] at HRW
  by_cases h7:k1=7
  ·have HU:=Hm (show usesE ⟨k1,ao1,av1,old1,b1,a1,r1,fl1⟩=r1 from (if_neg (by rw [hr];simp)).trans (if_pos h7))
   have h7' :(k1==7)=true:=by simpa using h7
   clear hr h7
   go_enter Tryz.func35,Tryz.ntmps35
   go_wp2_with (first
    |(go_at_call 68;refine (HRW.out _).mono ?_;rintro e w1 ⟨rfl,hb1⟩;(have hE_w1:Ext (w.alloc (.cells #[.int .u8 k1, .int .u32 ao1, .int .u32 av1, .int .u8 old1, .slice ba1 b1.length bc1, .slice aa1 a1.length ac1, .slice ra1 r1.length rc1, .int .u8 fl1] 77)) w1:=(by exact eX);obtain ⟨hc_w1,hf_w1⟩:=hE_w1.cells;have hz_w1:=hE_w1.size);have HB1:=Hm hb1)
    |(go_at_call 69;refine (HCR.out _ (by exact eX)).mono ?_;rintro e w2 ⟨a',c',rfl,ho2,hb2⟩;have HO2:=Hm ho2;clear ho2))
   go_ret
   refine ⟨_,_,_,rfl,by rw [HU.out], ?_,by exact eX⟩
   rw [HU.out]
   exact owns_base HO2.out (by have:=HB1.out.size;simp at this;omega)
  ·have HU:=Hm (show usesE ⟨k1,ao1,av1,old1,b1,a1,r1,fl1⟩= [] from (if_neg (by rw [hr];simp)).trans (if_neg h7))
   have h7' :(k1==7)=false:=by simpa using h7
   clear hr h7
   go_enter Tryz.func35,Tryz.ntmps35
   go_wp2_with (go_at_call 68;refine (HRW.out _).mono ?_;rintro e w1 ⟨rfl,hb1⟩;(have hE_w1:Ext (w.alloc (.cells #[.int .u8 k1, .int .u32 ao1, .int .u32 av1, .int .u8 old1, .slice ba1 b1.length bc1, .slice aa1 a1.length ac1, .slice ra1 r1.length rc1, .int .u8 fl1] 77)) w1:=(by exact eX);obtain ⟨hc_w1,hf_w1⟩:=hE_w1.cells;have hz_w1:=hE_w1.size))
   go_ret
   refine ⟨_,_,_,rfl,by rw [HU.out];rfl, ?_,by exact eX⟩
   rw [HU.out]
   exact World.ownsRow_nil _ _ _ _
theorem one_owns2 {W:World} {N:Nat} {T:TypeId} (o v:Int) (hN:N≤W.heap.size):(W.alloc (.cells #[.int .u32 o, .int .u32 v] T)).ownsRow N T 2 (.slice (some ⟨W.heap.size,0,none⟩) 1 1) 1 ((([⟨o,v⟩]:List Rf).map Rf.cells).flatten):=
 ⟨rfl, .inr ⟨W.heap.size,1, #[.int .u32 o, .int .u32 v],rfl,hN,Blk.new W _ _,Nat.le_refl _,by unfold maxLen;omega,rfl,rfl⟩⟩
theorem reuses_any (x:EL) (w:World) (hx:x.at 6 K.rc w):
 Calls Tryz.prog 12 #[x.agg] w fun e w' =>∃(a' :Option Addr) (n c' :Nat),e= .returned (.slice a' n c')∧n=(usesE x.e).length∧Sl w' (.slice a' n c') 2 ((usesE x.e).map Rf.cells)∧Ext w w' :=by
 obtain ⟨⟨k1,ao1,av1,old1,b1,a1,r1,fl1⟩,ba1,bc1,aa1,ac1,ra1,rc1⟩:=x
 have HL:=Hm hx.r
 unfold EL.agg
 simp only at HL⊢
 clear hx
 by_cases h4:4≤k1
 ·by_cases h6:k1≤6
  ·have HU:=Hm (show usesE ⟨k1,ao1,av1,old1,b1,a1,r1,fl1⟩= [⟨ao1,av1⟩] from if_pos (decide_eq_true ⟨h4,h6⟩))
   go_enter Tryz.func12,Tryz.ntmps12
   go_wp2
   go_ret
   refine ⟨_,_,_,rfl,by rw [HU.out];rfl, ?_,by exact eX⟩
   rw [HU.out]
   exact Sl.of_owns (base:=0) (e:=41) (by have h:=one_owns2 (W:=w.alloc (.cells #[.int .u8 k1, .int .u32 ao1, .int .u32 av1, .int .u8 old1, .slice ba1 b1.length bc1, .slice aa1 a1.length ac1, .slice ra1 r1.length rc1, .int .u8 fl1] 47)) (T:=41) ao1 av1 (Nat.zero_le _);rw [World.size_alloc] at h;exact h) (by intro xs hxs;simp at hxs;subst hxs;rfl)
  ·have hr:rowedB k1=false:=decide_eq_false (fun h=>h6 h.2)
   by_cases h7:k1=7
   ·have HU:=Hm (show usesE ⟨k1,ao1,av1,old1,b1,a1,r1,fl1⟩=r1 from (if_neg (by rw [hr];simp)).trans (if_pos h7))
    have h7' :(k1==7)=true:=by simpa using h7
    clear hr h7
    go_enter Tryz.func12,Tryz.ntmps12
    go_wp2
    go_ret
    refine ⟨_,_,_,rfl,by rw [HU.out], ?_,by exact eX⟩
    rw [HU.out]
    exact HL.out.ext (by exact eX)
   ·have HU:=Hm (show usesE ⟨k1,ao1,av1,old1,b1,a1,r1,fl1⟩= [] from (if_neg (by rw [hr];simp)).trans (if_neg h7))
    have h7' :(k1==7)=false:=by simpa using h7
    clear hr h7
    go_enter Tryz.func12,Tryz.ntmps12
    go_wp2
    go_ret
    refine ⟨_,_,_,rfl,by rw [HU.out];rfl, ?_,by exact eX⟩
    rw [HU.out]
    exact nilRef _
 ·have HU:=Hm (show usesE ⟨k1,ao1,av1,old1,b1,a1,r1,fl1⟩= [] from (if_neg (by rw [show rowedB k1=false from decide_eq_false (fun h=>h4 h.1)];simp)).trans (if_neg (by simp only;omega)))
  have h7' :(k1==7)=false:=by simp;omega
  go_enter Tryz.func12,Tryz.ntmps12
  go_wp2
  go_ret
  refine ⟨_,_,_,rfl,by rw [HU.out];rfl, ?_,by exact eX⟩
  rw [HU.out]
  exact nilRef _
def GreatK (l:List K) (cols:List Col) (nm:ByteArray) (w:World) (e:Ending) (w' :World):Prop:=
 ∃g:Bool,e= .returned (.bool g)∧(g=false→(∀c∈l,c.v.s.size≤3000)∧(∀c∈cols,c.nm.size≤60)∧l.length≤20∧cols.length≤20∧nm.size≤60)∧Ext w w'
theorem greatK_any (l:List K) (a:Option Addr) (cap:Nat) (oid ver:Int) (nm:ByteArray) (id:Int) (cols:List Col) (a2:Option Addr) (cap2:Nat) (w:World) (hl:Sl w (.slice a l.length cap) 6 (l.map K.rc)) (hl2:Sl w (.slice a2 cols.length cap2) 3 (cols.map Col.cells))
 (hlen:l.length≤9223372036854775807) (hlen2:cols.length≤9223372036854775807) (hs:∀c∈l,c.v.s.size≤9223372036854775807) (hs2:∀c∈cols,c.nm.size≤9223372036854775807) (hnm:nm.size≤9223372036854775807):
 Calls Tryz.prog 14 #[.slice a l.length cap, .agg #[.int .u32 oid, .int .u32 ver, .string nm, .int .u8 id, .slice a2 cols.length cap2]] w (GreatK l cols nm w):=by
 have HL:=Hm hl
 have HL2:=Hm hl2
 have HS:=Hm hs
 have HS2:=Hm hs2
 clear hl hl2 hs hs2
 go_enter Tryz.func14,Tryz.ntmps14
 go_wp2
 go_loopw [5] (fun i wr=>∃k:Nat,k≤l.length∧i= .int .i64 k∧Hid (∀j (hj:j<l.length),j<k→l[j].v.s.size≤3000)∧Hid (Ext (w.alloc (.cells #[.int .u32 oid, .int .u32 ver, .string nm, .int .u8 id, .slice a2 cols.length cap2] 44)) wr)) (fun i _=>l.length - (intOf i).toNat)
 case atStart=>exact ⟨0,Nat.zero_le _,rfl,fun j _ h=>by omega,Ext.refl _⟩
 case round=>
  obtain ⟨k,hk,rfl,hrel,hE⟩:=hrel
  have hEw:Hid (Ext w wr):=Hm (((Ext.refl w).alloc _).trans hE.out)
  by_cases hlt:k<l.length
  ·obtain ⟨b,o,rfl,hb,hx⟩:=HL.out.at_ (i:=k) (by simpa using hlt)
   obtain ⟨f0,f1,f2,f3,f4,f5⟩:=K.rcAt hlt hx hb hEw.out
   have hbw:b<wr.heap.size:=Nat.lt_of_lt_of_le hb hEw.out.size
   have hsz:=HS.out _ (List.getElem_mem hlt)
   clear hx
   by_cases h3:3000<l[k].v.s.size
   ·go_wp2
    go_ret
    exact ⟨true,rfl,(fun h=>by cases h),hEw.out⟩
   ·have h4:l[k].v.s.size≤3000:=by omega
    go_wp2
    go_roundw
    case rel=>exact ⟨k+1,by omega,by go_num,fun j hj hjk=>by
     by_cases e:j=k
     ·subst e;exact h4
     ·exact hrel.out j hj (by omega),hE⟩
    case measure=>simp [intOf];omega
  ·have hkk:k=l.length:=by omega
   have H3:Hid (∀c∈l,c.v.s.size≤3000):=Hm (fun c hc=>by
    obtain ⟨i,hi,rfl⟩:=List.getElem_of_mem hc
    exact hrel.out i hi (by omega))
   subst hkk
   clear hrel
   have hBx:=(Blk.new w #[.int .u32 oid, .int .u32 ver, .string nm, .int .u8 id, .slice a2 cols.length cap2] 44).ext hE.out
   have g0:=hBx.cell
   have z0:=hBx.lt
   clear hBx
   go_wp2
   obtain ⟨wo,rfl⟩:∃wo:World,wo=wr:=⟨_,rfl⟩
   go_loopw [6] (fun i wr=>∃k:Nat,k≤cols.length∧i= .int .i64 k∧Hid (∀j (hj:j<cols.length),j<k→cols[j].nm.size≤60)∧wr=wo) (fun i _=>cols.length - (intOf i).toNat)
   case atStart=>exact ⟨0,Nat.zero_le _,rfl,fun j _ h=>by omega,rfl⟩
   case round=>
    obtain ⟨k,hk,rfl,hrel,rfl⟩:=hrel
    by_cases hlt:k<cols.length
    ·obtain ⟨b,o,rfl,hb,hx⟩:=HL2.out.at_ (i:=k) (by simpa using hlt)
     obtain ⟨f0,f1,f2⟩:=Col.at_ hlt hx hb hEw.out
     have hbw:b<wr.heap.size:=Nat.lt_of_lt_of_le hb hEw.out.size
     have hsz:=HS2.out _ (List.getElem_mem hlt)
     clear hx
     by_cases h3:60<cols[k].nm.size
     ·go_wp2
      go_ret
      exact ⟨true,rfl,(fun h=>by cases h),hEw.out⟩
     ·have h4:cols[k].nm.size≤60:=by omega
      go_wp2
      go_roundw
      case rel=>exact ⟨k+1,by omega,by go_num,fun j hj hjk=>by
       by_cases e:j=k
       ·subst e;exact h4
       ·exact hrel.out j hj (by omega),(by first|trivial|rfl)⟩
      case measure=>simp [intOf];omega
    ·have hkk:k=cols.length:=by omega
     have H4:Hid (∀c∈cols,c.nm.size≤60):=Hm (fun c hc=>by
      obtain ⟨i,hi,rfl⟩:=List.getElem_of_mem hc
      exact hrel.out i hi (by omega))
     subst hkk
     clear hrel
     by_cases c1:20<l.length
     ·go_wp2
      go_ret
      exact ⟨_,rfl,fun h=>by simp at h;try omega,hEw.out⟩
     ·have c1' :l.length≤20:=by omega
      by_cases c2:20<cols.length
      ·go_wp2
       go_ret
       exact ⟨_,rfl,fun h=>by simp at h;try omega,hEw.out⟩
      ·have c2' :cols.length≤20:=by omega
       go_wp2
       go_ret
       exact ⟨_,rfl,fun h=>⟨H3.out,H4.out,c1',c2',by simp at h;omega⟩,hEw.out⟩
structure Tx where
 xid:Int
 st:Int
 es:List Ev
structure TL where
 xid:Int
 st:Int
 es:List EL
 a:Option Addr
 c:Nat
def TL.t (x:TL):Tx:=⟨x.xid,x.st,x.es.map EL.e⟩
def TL.vals (x:TL):List Value:= [.int .u32 x.xid, .int .u64 x.st, .slice x.a x.es.length x.c]
def TL.agg (x:TL):Value:= .agg #[.int .u32 x.xid, .int .u64 x.st, .slice x.a x.es.length x.c]
def TL.at (n:Nat) (f:K→List Value) (W:World) (x:TL):Prop:=ES n f W (.slice x.a x.es.length x.c) x.es
theorem TL.at.ext {n:Nat} {f:K→List Value} {W W' :World} {x:TL} (h:x.at n f W) (he:Ext W W'):x.at n f W' :=ES.ext h he
theorem TL.at_ {w wr:World} {b o:Nat} {l:List TL} {k:Nat} (hk:k<l.length) (hc:∀j,j<3→w.cell? ⟨b,o+k*3+j,none⟩=((l.map TL.vals).getD k [])[j]?) (hb:b<w.heap.size) (hE:Ext w wr):
 wr.cell? ⟨b,o+k*3,none⟩=some (.int .u32 l[k].xid)∧wr.cell? ⟨b,o+k*3+1,none⟩=some (.int .u64 l[k].st)∧wr.cell? ⟨b,o+k*3+2,none⟩=some (.slice l[k].a l[k].es.length l[k].c):=by
 rw [getD_map TL.vals l hk] at hc
 have c:=hE.cells.1 b
 exact ⟨(c _ hb).trans (hc 0 (by omega)),(c _ hb).trans (hc 1 (by omega)),(c _ hb).trans (hc 2 (by omega))⟩
structure TS (n:Nat) (f:K→List Value) (W:World) (v:Value) (xs:List TL):Prop where
 row:Sl W v 3 (xs.map TL.vals)
 sl:∀x∈xs,x.at n f W
theorem TS.ext {n:Nat} {f:K→List Value} {W W' :World} {v:Value} {xs:List TL} (h:TS n f W v xs) (he:Ext W W'):TS n f W' v xs:=⟨h.row.ext he,fun x hx=>(h.sl x hx).ext he⟩
structure Ev.sz (e:Ev):Prop where
 b:e.b.length≤9223372036854775807
 a:e.a.length≤9223372036854775807
 r:e.rs.length≤9223372036854775807
 sb:∀c∈e.b,c.wk
 sa:∀c∈e.a,c.wk
 kind:0≤e.kind∧e.kind<256
 old:0≤e.old∧e.old<256
 fl:0≤e.fl∧e.fl<256
structure TL.sz (x:TL):Prop where
 n:x.es.length≤1500000000000
 e:∀e∈x.es,e.e.sz
 xid:0≤x.xid
structure Ev.lit (e:Ev):Prop where
 b:e.b.length≤20
 a:e.a.length≤20
 r:e.rs.length≤30
 sb:∀c∈e.b,c.v.s.size≤3000
 sa:∀c∈e.a,c.v.s.size≤3000
def manyT (ts:List TL) (k:Nat):Nat:=((ts.take k).map fun t=>t.es.length).sum
structure Lit (ps:List RR) (ts:List TL):Prop where
 n:ps.length≤70
 t:ts.length≤60
 es:manyT ts ts.length≤600
 e:∀t∈ts,∀e∈t.es,e.e.lit
 r:∀p∈ps,p.r.cols.length≤20
def GreatT (ps:List RR) (ts:List TL) (w:World) (e:Ending) (w' :World):Prop:=∃g:Bool,e= .returned (.bool g)∧(g=false→Lit ps ts)∧Ext w w'
theorem manyT_succ {ts:List TL} {k:Nat} (hk:k<ts.length):manyT ts (k+1)=manyT ts k+ts[k].es.length:=by
 unfold manyT
 rw [List.take_succ_eq_append_getElem hk,List.map_append,List.sum_append];simp
theorem manyT_le (ts:List TL) (k:Nat):manyT ts k≤manyT ts ts.length:=by
 unfold manyT
 rw [List.take_length]
 have:(ts.map fun t=>t.es.length)=((ts.take k).map fun t=>t.es.length)++((ts.drop k).map fun t=>t.es.length):=by rw [←List.map_append,List.take_append_drop]
 rw [this,List.sum_append];omega
theorem manyT_bd {ts:List TL} (h:∀t∈ts,t.sz) (k:Nat):manyT ts k≤k*1500000000000:=by
 induction k with
 |zero=>exact Nat.le_of_eq (by unfold manyT;rw [Nat.zero_mul];rfl)
 |succ k ih=>
  by_cases hk:k<ts.length
  ·rw [manyT_succ hk,Nat.succ_mul];exact Nat.add_le_add ih (h _ (List.getElem_mem hk)).n
  ·have e:manyT ts (k+1)=manyT ts k:=by unfold manyT;rw [List.take_of_length_le (by omega),List.take_of_length_le (by omega)]
   rw [e];exact Nat.le_trans ih (Nat.mul_le_mul_right _ (by omega))
structure GrI (ts:List TL) (m:Int) (k:Nat):Prop where
 mm:ts.length≤60→m=manyT ts k
 e:ts.length≤60→m≤600→∀j (h:j<ts.length),j<k→∀e∈ts[j].es,e.e.lit
theorem GrI.zero (ts:List TL):GrI ts 0 0:=⟨fun _=>rfl,fun _ _ j _ h=>by omega⟩
theorem GrI.succ {ts:List TL} {m:Int} {k:Nat} (h:GrI ts m k) (hs:∀t∈ts,t.sz) (hk:k<ts.length) (he:wrap64 (m+(ts[k].es.length:Nat))≤600→∀e∈ts[k].es,e.e.lit):GrI ts (wrap64 (m+(ts[k].es.length:Nat))) (k+1):=by
 have hw:ts.length≤60→wrap64 (m+(ts[k].es.length:Nat))=manyT ts (k+1):=fun h60=>by
  have h1:=h.mm h60
  have h2:=manyT_bd hs k
  have h3:=(hs _ (List.getElem_mem hk)).n
  have h4:k*1500000000000≤60*1500000000000:=Nat.mul_le_mul_right _ (by omega)
  rw [manyT_succ hk,h1]
  have e:((manyT ts k:Nat):Int)+((ts[k].es.length:Nat):Int)=((manyT ts k+ts[k].es.length:Nat):Int):=by omega
  rw [e]
  exact IntWalk.wrap64_in _ (by omega)
 refine ⟨hw,fun h60 hm j hj hjk=> ?_⟩
 by_cases e:j=k
 ·subst e;exact he hm
 ·refine h.e h60 ?_ j hj (by omega)
  rw [h.mm h60]
  rw [hw h60,manyT_succ hk] at hm
  omega
theorem greatT_any (ps:List RR) (ts:List TL) (a a2:Option Addr) (c c2:Nat) (w:World) (hp:RL w (.slice a ps.length c) ps) (ht:TS 6 K.rc w (.slice a2 ts.length c2) ts) (hn:ps.length≤9223372036854775807) (hm:ts.length≤9223372036854775807) (hw:∀p∈ps,p.r.wb) (hs:∀t∈ts,t.sz):
 Calls Tryz.prog 4 #[.slice a ps.length c, .slice a2 ts.length c2] w (GreatT ps ts w):=by
 have HP:=Hm hp
 have HT:=Hm ht
 have HW:=Hm hw
 have HS:=Hm hs
 have HGR:=Hm (fun W p (h:Ext w W) (hp' :p∈ps)=>(show Calls Tryz.prog 14 #[.slice none 0 0,p.agg] W (GreatK [] p.r.cols p.r.nm W) from greatK_any [] none 0 p.r.oid p.r.ver p.r.nm p.r.id p.r.cols p.a p.c W ⟨none,0,rfl, .inl rfl⟩ ((hp.sl p hp').ext h) (by simp) (by have:=(hw p hp').n;omega) (by intro c hc;cases hc) (hw p hp').cs (hw p hp').nm))
 have HGK:=Hm (fun W (l:List K) (ab:Option Addr) (cb:Nat) (h:Sl W (.slice ab l.length cb) 6 (l.map K.rc)) (h1:l.length≤9223372036854775807) (h2:∀c∈l,K.wk c)=>(show Calls Tryz.prog 14 #[.slice ab l.length cb, .agg #[.int .u32 0, .int .u32 0, .string ⟨#[]⟩, .int .u8 0, .slice none 0 0]] W (GreatK l [] ⟨#[]⟩ W) from greatK_any l ab cb 0 0 ⟨#[]⟩ 0 [] none 0 W h ⟨none,0,rfl, .inl rfl⟩ h1 (by simp) (fun c hc=>(h2 c hc).s) (by intro c hc;cases hc) (by show 0≤9223372036854775807;omega)))
 clear hp ht hw hs
 go_enter Tryz.func4,Tryz.ntmps4
 go_wp2
 go_loopg [5,6] ts.length (fun z mv i wr=>∃(m:Int) (k:Nat),z+k=ts.length∧i= .int .i64 k∧mv= .int .i64 m∧Hid (GrI ts m k)∧Hid (Ext w wr))
 case atStart=>exact ⟨0,0,by omega,rfl,rfl,Hm (GrI.zero ts),Hm (Ext.refl _)⟩
 case round=>
  obtain ⟨m,k,hzk,rfl,rfl,hG,hE⟩:=hrel
  by_cases hlt:k<ts.length
  ·obtain ⟨b,o,rfl,hb,hx⟩:=HT.out.row.at_ (i:=k) (by simpa using hlt)
   have HF:=Hm (fun W (h:Ext w W)=>TL.at_ hlt hx hb h)
   obtain ⟨f0,f1,f2⟩:=HF.out wr hE.out
   have hbw:b<wr.heap.size:=Nat.lt_of_lt_of_le hb hE.out.size
   have HES:=Hm (HT.out.sl _ (List.getElem_mem hlt))
   have HSZ:=Hm (HS.out _ (List.getElem_mem hlt))
   have HNX:=Hm (fun he=>GrI.succ hG.out HS.out hlt he)
   obtain ⟨t,ht⟩:∃t,t=ts[k]:=⟨_,rfl⟩
   rw [←ht] at HF f0 f1 f2 HES HSZ HNX
   clear ht hx
   obtain ⟨xid,st,es,ta,tc⟩:=t
   simp only at HF f0 f1 f2 HSZ HNX
   have HES2:Hid (ES 6 K.rc w (.slice ta es.length tc) es):=HES
   clear HES
   obtain ⟨X,hX⟩:∃X,X=wrap64 (m+(es.length:Nat)):=⟨_,rfl⟩
   rw [←hX] at HNX
   have HX:=Hm hX
   clear hX
   obtain ⟨wo,hwo⟩:∃x,x=wr:=⟨_,rfl⟩
   subst hwo
   have HEo:=Hm hE.out
   clear hE
   go_wp2
   rw [show wrap64 (m+(es.length:Int))=X from HX.out.symm]
   go_loopg [7] es.length (fun z2 i wr=>∃(n:Nat),z2+n=es.length∧i= .int .i64 n∧Hid (∀j (h:j<es.length),j<n→es[j].e.lit)∧Hid (Ext wo wr))
   case atStart=>exact ⟨0,by omega,rfl,Hm (fun j _ h=>by omega),Hm (Ext.refl _)⟩
   case round=>
    obtain ⟨n,hzn,rfl,hL,hE⟩:=hrel
    have HEr:=Hm (HEo.out.trans hE.out)
    clear f0 f1 f2
    obtain ⟨f0,f1,f2⟩:=HF.out wr HEr.out
    have hbw2:b<wr.heap.size:=Nat.lt_of_lt_of_le hbw hE.out.size
    by_cases hlt2:n<es.length
    ·by_cases hX6:X≤600
     ·obtain ⟨b2,o2,rfl,hb2,hx2⟩:=HES2.out.row.at_ (i:=n) (by simpa using hlt2)
      have hbw3:b2<wr.heap.size:=Nat.lt_of_lt_of_le hb2 HEr.out.size
      obtain ⟨g0,g1,g2,g3,g4,g5,g6,g7⟩:=EL.at_ hlt2 hx2 hb2 HEr.out
      have hxa:=HES2.out.sl _ (List.getElem_mem hlt2)
      have hxs:=HSZ.out.e _ (List.getElem_mem hlt2)
      obtain ⟨x,hxx⟩:∃x,x=es[n]:=⟨_,rfl⟩
      rw [←hxx] at g0 g1 g2 g3 g4 g5 g6 g7 hxa hxs
      have HXX:=Hm hxx
      have HKB:=Hm (fun W (h:Ext w W)=>HGK.out W x.e.b x.ba x.bc (hxa.b.ext h) hxs.b hxs.sb)
      have HKA:=Hm (fun W (h:Ext w W)=>HGK.out W x.e.a x.aa x.ac (hxa.a.ext h) hxs.a hxs.sa)
      have hxr:=hxs.r
      have hlen:=HSZ.out.n
      obtain ⟨⟨k1,ao1,av1,old1,b1,a1,r1,fl1⟩,ba1,bc1,aa1,ac1,ra1,rc1⟩:=x
      simp only at g0 g1 g2 g3 g4 g5 g6 g7 HKB HKA hxr
      clear hxa hxs hxx hx2
      go_wp2_with (first
       |(go_at_call_of 14 (Value.slice ba1 b1.length bc1);(with_reducible refine (HKB.out _ (by have:=HEr.out;exact eX)).mono ?_);rintro e w2 ⟨g,rfl,hg,hb2⟩;(have hE_w2:Ext (wr.alloc (.cells #[.int .u8 k1, .int .u32 ao1, .int .u32 av1, .int .u8 old1, .slice ba1 b1.length bc1, .slice aa1 a1.length ac1, .slice ra1 r1.length rc1, .int .u8 fl1] 47)) w2:=(by exact eX);obtain ⟨hc_w2,hf_w2⟩:=hE_w2.cells;have hz_w2:=hE_w2.size);have HGB:=Hm hg;clear hg;cases g)
       |(go_at_call_of 14 (Value.slice aa1 a1.length ac1);(with_reducible refine (HKA.out _ (by have:=HEr.out;exact eX)).mono ?_);rintro e w3 ⟨g,rfl,hg,hb3⟩;(have hE_w3:Ext (wr.alloc (.cells #[.int .u8 k1, .int .u32 ao1, .int .u32 av1, .int .u8 old1, .slice ba1 b1.length bc1, .slice aa1 a1.length ac1, .slice ra1 r1.length rc1, .int .u8 fl1] 47)) w3:=(by exact eX);obtain ⟨hc_w3,hf_w3⟩:=hE_w3.cells;have hz_w3:=hE_w3.size);have HGA:=Hm hg;clear hg;cases g))
      all_goals first
       |(go_ret;exact ⟨true,rfl,(fun h=>by cases h),HEr.out.trans (by exact eX)⟩)
       |skip
      have HXL:Hid (es[n].e.lit):=Hm (by
       rw [←HXX.out]
       have hb:=HGB.out (by first|exact rfl|exact trivial)
       have ha:=HGA.out (by first|exact rfl|exact trivial)
       exact ⟨hb.2.2.1,ha.2.2.1,by show r1.length≤30;omega,hb.1,ha.1⟩)
      go_roundg (es.length - (n+1))
      case measure=>omega
      case rel=>exact ⟨n+1,by omega,by go_num,Hm (fun j hj hjn=>by
       by_cases e:j=n
       ·subst e;exact HXL.out
       ·exact hL.out j hj (by omega)),Hm (hE.out.trans (by exact eX))⟩
     ·go_wp2
      go_roundg (ts.length - (k+1))
      case measure=>omega
      case rel=>exact ⟨X,k+1,by omega,by go_num,rfl,Hm (HNX.out (fun h=>by omega)),HEr⟩
    ·obtain rfl:n=es.length:=by omega
     have HNX2:=Hm (HNX.out (fun _ e he=>by
      obtain ⟨j,hj,rfl⟩:=List.getElem_of_mem he
      exact hL.out j hj hj))
     go_wp2
     go_roundg (ts.length - (k+1))
     case measure=>omega
     case rel=>exact ⟨X,k+1,by omega,by go_num,rfl,HNX2,HEr⟩
  ·obtain rfl:k=ts.length:=by omega
   obtain ⟨wo,hwo⟩:∃x,x=wr:=⟨_,rfl⟩
   subst hwo
   go_wp2
   go_loopg [9] ps.length (fun z i wr=>∃(n:Nat),z+n=ps.length∧i= .int .i64 n∧Hid (∀j (h:j<ps.length),j<n→ps[j].r.cols.length≤20)∧Hid (Ext wo wr))
   case atStart=>exact ⟨0,by omega,rfl,Hm (fun j _ h=>by omega),Hm (Ext.refl _)⟩
   case round=>
    obtain ⟨n,hzn,rfl,hL,hF⟩:=hrel
    by_cases hlt2:n<ps.length
    ·obtain ⟨b,o,rfl,hb,hx⟩:=HP.out.row.at_ (i:=n) (by simpa using hlt2)
     obtain ⟨f0,f1,f2,f3,f4⟩:=RR.at_ hlt2 hx hb (hE.out.trans hF.out)
     have hbw:b<wr.heap.size:=Nat.lt_of_lt_of_le hb (hE.out.trans hF.out).size
     have HPM:=Hm (List.getElem_mem hlt2)
     obtain ⟨p,hp⟩:∃p,p=ps[n]:=⟨_,rfl⟩
     rw [←hp] at f0 f1 f2 f3 f4 HPM
     have HPP:=Hm hp
     have HGP:=Hm (fun W (h:Ext w W)=>HGR.out W p h HPM.out)
     unfold RR.agg at HGP
     clear hp hx
     go_wp2_with (go_at_call 14;refine (HGP.out _ (hE.out.trans hF.out)).mono ?_;rintro e w2 ⟨g,rfl,hg,hb2⟩;have HGB:=Hm hg;clear hg;cases g)
     all_goals first
      |(go_ret;exact ⟨true,rfl,(fun h=>by cases h),(hE.out.trans hF.out).trans (by exact eX)⟩)
      |skip
     go_roundg (ps.length - (n+1))
     case measure=>omega
     case rel=>exact ⟨n+1,by omega,by go_num,Hm (fun j hj hjn=>by
      by_cases e:j=n
      ·subst e;rw [←HPP.out];exact (HGB.out (by first|exact rfl|exact trivial)).2.2.2.1
      ·exact hL.out j hj (by omega)),Hm (hF.out.trans (by exact eX))⟩
    ·obtain rfl:n=ps.length:=by omega
     by_cases h6:600<m
     ·go_wp2
      go_ret
      exact ⟨true,rfl,(fun h=>by cases h),hE.out.trans hF.out⟩
     by_cases h60:60<ts.length
     ·go_wp2
      go_ret
      exact ⟨true,ret_bool (by first|(simp;done)|(simp;omega)),(fun h=>by cases h),hE.out.trans hF.out⟩
     by_cases h70:70<ps.length
     ·go_wp2
      go_ret
      exact ⟨true,ret_bool (by first|(simp;done)|(simp;omega)),(fun h=>by cases h),hE.out.trans hF.out⟩
     have HLIT:Hid (Lit ps ts):=Hm (by
      have e1:=hG.out.mm (by omega)
      have e2:=hG.out.e (by omega) (by omega)
      refine ⟨by omega,by omega,by omega,fun t ht e he=> ?_,fun p hp=> ?_⟩
      ·obtain ⟨j,hj,rfl⟩:=List.getElem_of_mem ht
       exact e2 j hj hj e he
      ·obtain ⟨j,hj,rfl⟩:=List.getElem_of_mem hp
       exact hL.out j hj hj)
     go_wp2
     go_ret
     exact ⟨false,ret_bool (by first|(simp;done)|(simp;omega)),fun _=>HLIT.out,hE.out.trans hF.out⟩
noncomputable def hasRf (l:List Rf) (r:Rf):Bool:=l.any (fun x=>rfB x r)
theorem hasRf_true {l:List Rf} {r:Rf} :hasRf l r=true↔r∈l:=by
 unfold hasRf
 rw [List.any_eq_true]
 constructor
 ·rintro ⟨x,hx,h⟩
  rw [rfB_true] at h
  exact h ▸ hx
 ·exact fun h=>⟨r,h,rfB_true.2 rfl⟩
theorem hasRf_snoc (l:List Rf) (a r:Rf):hasRf (l++ [a]) r=(hasRf l r||rfB a r):=by
 unfold hasRf
 simp
def txMB (t:Tx):Msg:=⟨66,t.xid,t.st,0,Rl0,Ev0⟩
def txMC (t:Tx):Msg:=⟨67,t.xid,0,t.es.length,Rl0,Ev0⟩
def relM (c:List Rl) (r:Rf):Msg:=⟨82,0,0,0,(getR r.o r.v c).getD Rl0,Ev0⟩
abbrev Said:=List Msg×List Rf
noncomputable def stU (c:List Rl) (s:Said) (r:Rf):Said:=if hasRf s.2 r=true then s else (s.1++ [relM c r],s.2++ [r])
noncomputable def usU (c:List Rl) (s:Said) (l:List Rf):Said:=l.foldl (stU c) s
noncomputable def stV (c:List Rl) (s:Said) (v:Ev):Said:=((usU c s (usesE v)).1++ [msgOf v],(usU c s (usesE v)).2)
noncomputable def evV (c:List Rl) (s:Said) (l:List Ev):Said:=l.foldl (stV c) s
noncomputable def stT (c:List Rl) (s:Said) (t:Tx):Said:=((evV c (s.1++ [txMB t],s.2) t.es).1++ [txMC t],(evV c (s.1++ [txMB t],s.2) t.es).2)
noncomputable def txT (c:List Rl) (s:Said) (l:List Tx):Said:=l.foldl (stT c) s
theorem foldl_take {α β:Type} (f:β→α→β) (s:β) (l:List α) {k:Nat} (h:k<l.length):(l.take (k+1)).foldl f s=f ((l.take k).foldl f s) l[k]:=by
 rw [List.take_succ_eq_append_getElem h,List.foldl_append]
 rfl
theorem usU_take (c:List Rl) (s:Said) (l:List Rf) {k:Nat} (h:k<l.length):usU c s (l.take (k+1))=stU c (usU c s (l.take k)) l[k]:=foldl_take _ _ _ h
theorem evV_take (c:List Rl) (s:Said) (l:List Ev) {k:Nat} (h:k<l.length):evV c s (l.take (k+1))=stV c (evV c s (l.take k)) l[k]:=foldl_take _ _ _ h
theorem txT_take (c:List Rl) (s:Said) (l:List Tx) {k:Nat} (h:k<l.length):txT c s (l.take (k+1))=stT c (txT c s (l.take k)) l[k]:=foldl_take _ _ _ h
noncomputable def storyM (c:List Rl) (l:List Tx):List Msg:=(txT c ([], []) l).1
noncomputable def saidW (c:List Rl) (l:List Msg):List Int:=(l.map (fun m=>msgW m c)).flatten
theorem saidW_snoc (c:List Rl) (l:List Msg) (m:Msg):saidW c (l++ [m])=saidW c l++msgW m c:=by
 unfold saidW
 simp
noncomputable def sendW (c:List Rl) (l:List Tx):List Int:=saidW c (storyM c l)
section
variable {P : Program} {ops : Array Oper} {Q : Exit → Act → World → Prop} {md : Region.Mode} {S S' : World → Prop}
theorem wpHd_two {n i j:Nat} {o o2:Oper} {f:Nat} {listed:Array Bool} {a:Act} {w:World} (hi:ops[i]? =some o) (hg:o.guard=none) (hj:ops[j]? =some o2) (hg2:o2.guard=none)
 (hr:(decide (Region.ready md ops listed= [i,j])&&(decide (i<n)&&decide (j<n)))=true)
 (h:∀K:Act→World→Prop,Hid (∀a' w',S w'→(S w'→wpHd P md ops Q S n f (listed.setIfInBounds i true) a' w')→K a' w')→o.wp P a w K Q)
 (h2:∀K:Act→World→Prop,Hid (∀a' w',S w'→(S w'→wpHd P md ops Q S n f (listed.setIfInBounds j true) a' w')→K a' w')→o2.wp P a w K Q):wpHd P md ops Q S n (f+1) listed a w:=by
 simp only [Bool.and_eq_true,decide_eq_true_eq] at hr
 refine ⟨by rw [hr.1];simp,fun k hk=> ?_⟩
 rw [hr.1] at hk
 simp only [List.mem_cons,List.not_mem_nil,or_false] at hk
 rcases hk with rfl|rfl
 ·refine ⟨hr.2.1, ?_⟩
  unfold wpOp
  simp only [hi]
  rw [if_pos (by simp [Region.wanted,hg])]
  exact .inl (h _ (fun a' w' hs hk=>⟨hs,hk hs⟩))
 ·refine ⟨hr.2.2, ?_⟩
  unfold wpOp
  simp only [hj]
  rw [if_pos (by simp [Region.wanted,hg2])]
  exact .inl (h2 _ (fun a' w' hs hk=>⟨hs,hk hs⟩))
end
end Go.Proofs.YtgmphpccpfaapaaGreatDoor
