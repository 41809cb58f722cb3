/-
The laws' Back of an event.
-/
import Derived.Test.YtodbhliidbclcaaGreatP18
set_option maxRecDepth 100000
set_option maxHeartbeats 16000000
namespace Go.Proofs.YtodbhliidbclcaaGreat
open Go.RowKit
theorem Tryz.infoRRfE:(Tryz.prog.info? 46).map (fun i=>(i.zero,i.size,i.bytes))=some (some (.agg #[.int .u32 0, .int .u32 0]),2,8):=by kernel_rfl
theorem backK_own (l:List K) (a:Option Addr) (cap:Nat) (w:World) (hl:Sl w (.slice a l.length cap) 5 (l.map K.pc)) (hlen:l.length≤1000):
 Calls Tryz.prog 34 #[.slice a l.length cap] w fun e w' =>∃a' cap',e= .returned (.slice a' l.length cap')∧w'.ownsRow w.heap.size 127 6 (.slice a' l.length cap') l.length (l.map K.rc).flatten∧Ext w w' :=by
 have HL:=Hm hl
 clear hl
 obtain ⟨i0,hi,hz0,hz1,hz2⟩:=info_parts Tryz.infoCellR
 go_enter Tryz.func34,Tryz.ntmps34
 go_wp2
 go_loopw [3,4] (fun v i wr=>∃k:Nat,k≤l.length∧i= .int .i64 k∧Hid (wr.ownsRow w.heap.size 127 6 v k ((l.map K.rc).take k).flatten)∧Hid (Ext w wr)) (fun _ i _=>l.length - (intOf i).toNat)
 case atStart=>exact ⟨0,Nat.zero_le _,rfl,World.ownsRow_nil _ _ _ _,Ext.refl _⟩
 case round=>
  obtain ⟨k,hk,rfl,hown,hE⟩:=hrel
  by_cases hlt:k<l.length
  ·obtain ⟨b,o,rfl,hb,hx⟩:=HL.out.at_ (i:=k) (by simpa using hlt)
   obtain ⟨f0,f1,f2,f3,f4⟩:=K.pcAt hlt hx hb hE.out
   have hbw:b<wr.heap.size:=Nat.lt_of_lt_of_le hb hE.out.size
   have HT:=Hm (flat_snoc (f:=K.rc) hlt)
   have HC:=Hm (fun w=>cback_any l[k].k l[k].v.ty l[k].v.n l[k].v.x l[k].v.y l[k].v.s w)
   obtain ⟨c,hc⟩:∃c,c=l[k]:=⟨_,rfl⟩
   rw [←hc] at f0 f1 f2 f3 f4 HT HC
   clear hc hx
   go_wp2_with (first
    |(go_at_call 61;refine (HC.out _).mono ?_;rintro e w1 ⟨rfl,hb1⟩;have HB1:=Hm hb1;have hz1' :=hb1.size;clear hb1)
    |(at_builtin;refine wpList_append_own _ rfl _ _ 47 rfl w.heap.size 127 i0 _ 6 56 Tryz.underlying47 hi hz0 hz1 hz2 rfl (by decide) _ _ _ rfl ((owns_ext hown.out HB1.out).alloc _) ⟨_,0,none⟩ 1 1 c.rc rfl rfl ?c1 ?c2 ?c3 ?c4 ?c5 ?_))
   case c1=>exact cells_new _ #[.int .u8 c.k, .int .u8 c.v.ty, .int .i64 c.v.n, .int .u64 c.v.x, .int .u64 c.v.y, .string c.v.s] _
   case c2=>intro u hu;simp [K.rc] at hu;rcases hu with rfl|rfl|rfl|rfl|rfl|rfl<;>rfl
   case c3=>unfold maxLen;omega
   case c4=>omega
   case c5=>have:=(hE.out.trans HB1.out).size;simp;omega
   ·intro v' w2 hown' hgrow _
    have HE2:=Hm (((hE.out.trans HB1.out).alloc _).grown ((owns_ext hown.out HB1.out).alloc _) hgrow)
    have HO2:=Hm hown'
    clear hown' hgrow
    go_wp2
    go_roundw
    case rel=>exact ⟨k+1,by omega,by go_num,Hm (by rw [HT.out];exact HO2.out),HE2⟩
    case measure=>simp [intOf];omega
  ·have hkk:k=l.length:=by omega
   subst hkk
   rw [show l.length=(l.map K.rc).length by simp,List.take_length] at hown
   rw [List.length_map] at hown
   obtain ⟨a',c',rfl⟩:=owns_shape hown.out
   go_wp2
   go_ret
   exact ⟨a',c',rfl,hown.out,hE.out⟩
theorem backK_fr (l:List K) (a:Option Addr) (cap:Nat) (w:World) (hl:Sl w (.slice a l.length cap) 5 (l.map K.pc)) (hlen:l.length≤1000):
 Calls Tryz.prog 34 #[.slice a l.length cap] w fun e w' =>∃a' cap',e= .returned (.slice a' l.length cap')∧l.length≤cap'∧Fr w' w.heap.size w'.heap.size (.slice a' l.length cap') 6 (l.map K.rc)∧Ext w w' :=by
 refine (backK_own l a cap w hl hlen).mono fun e w' h=> ?_
 obtain ⟨a',c',h1,h2,h3⟩:=h
 exact ⟨a',c',h1,owns_cap h2,Fr.new (Sl.of_owns (base:=w.heap.size) (e:=127) (by rw [List.length_map];exact h2) (by intro xs hxs;simp at hxs;obtain ⟨a,_,rfl⟩:=hxs;rfl)) (fun b o e=>(h2.lt b (by rw [e];rfl)).1),h3⟩
theorem eback_any (kind ao av old:Int) (lb la:List K) (rs:List Rf) (fl:Int) (ba aa ra:Option Addr) (bc ac rc:Nat) (w:World) (hb:Sl w (.slice ba lb.length bc) 5 (lb.map K.pc)) (ha:Sl w (.slice aa la.length ac) 5 (la.map K.pc)) (hr:Sl w (.slice ra rs.length rc) 2 (rs.map Rf.cells)) (hnb:lb.length≤1000) (hna:la.length≤1000) (hnr:rs.length≤1000):
 Calls Tryz.prog 10 #[.agg #[.int .u8 kind, .int .u32 ao, .int .u32 av, .int .u8 old, .slice ba lb.length bc, .slice aa la.length ac, .slice ra rs.length rc, .int .u8 fl]] w fun e w' =>∃b1 c1 a1 d1 r1 e1,e= .returned (.agg #[.int .u8 kind, .int .u32 ao, .int .u32 av, .int .u8 old, .slice b1 lb.length c1, .slice a1 la.length d1, .slice r1 rs.length e1, .int .u8 fl])∧(⟨⟨kind,ao,av,old,lb,la,rs,fl⟩,b1,c1,a1,d1,r1,e1⟩:EL).at 6 K.rc w'∧(⟨⟨kind,ao,av,old,lb,la,rs,fl⟩,b1,c1,a1,d1,r1,e1⟩:EL).on (fun b=>w.heap.size≤b)∧Ext w w' :=by
 obtain ⟨i0,hi,hz0,hz1,hz2⟩:=info_parts Tryz.infoRRfE
 have HOB:=Hm (fun W (h:Ext w W)=>backK_fr lb ba bc W (hb.ext h) hnb)
 have HOA:=Hm (fun W (h:Ext w W)=>backK_fr la aa ac W (ha.ext h) hna)
 have HR:=Hm hr
 clear hb ha hr
 go_enter Tryz.func10,Tryz.ntmps10
 go_upto_region 1 with (fail)
 go_cut [3] (fun p wx=>∃X b1 c1 a1 d1,p= .pointer (some ⟨X,0,none⟩)∧Hid (Blk wx X #[.int .u8 kind, .int .u32 ao, .int .u32 av, .int .u8 old, .slice b1 lb.length c1, .slice a1 la.length d1, .slice none 0 0, .int .u8 fl] 50)∧Hid (Sl wx (.slice b1 lb.length c1) 6 (lb.map K.rc))∧Hid (Sl wx (.slice a1 la.length d1) 6 (la.map K.rc))∧Hid (lb.map K.rc≠ []→∀b o,b1=some ⟨b,o,none⟩→b≠X∧w.heap.size+1<b)∧Hid (la.map K.rc≠ []→∀b o,a1=some ⟨b,o,none⟩→b≠X∧w.heap.size+1<b)∧Hid (w.heap.size+1<X)∧Hid (Ext ((w.alloc (.cells #[.int .u8 kind, .int .u32 ao, .int .u32 av, .int .u8 old, .slice ba lb.length bc, .slice aa la.length ac, .slice ra rs.length rc, .int .u8 fl] 39)).alloc (.cells #[.int .u8 0, .int .u32 0, .int .u32 0, .int .u8 0, .slice none 0 0, .slice none 0 0, .slice none 0 0, .int .u8 0] 50)) wx))
 case first=>
  go_region_held3 (fun w' =>Ext (((w.alloc (.cells #[.int .u8 kind, .int .u32 ao, .int .u32 av, .int .u8 old, .slice ba lb.length bc, .slice aa la.length ac, .slice ra rs.length rc, .int .u8 fl] 39)).alloc (.cells #[.int .u8 0, .int .u32 0, .int .u32 0, .int .u8 0, .slice none 0 0, .slice none 0 0, .slice none 0 0, .int .u8 0] 50))) w'∧(∀b o,b<(((w.alloc (.cells #[.int .u8 kind, .int .u32 ao, .int .u32 av, .int .u8 old, .slice ba lb.length bc, .slice aa la.length ac, .slice ra rs.length rc, .int .u8 fl] 39)).alloc (.cells #[.int .u8 0, .int .u32 0, .int .u32 0, .int .u8 0, .slice none 0 0, .slice none 0 0, .slice none 0 0, .int .u8 0] 50))).heap.size→w'.cell? ⟨b,o,none⟩=(((w.alloc (.cells #[.int .u8 kind, .int .u32 ao, .int .u32 av, .int .u8 old, .slice ba lb.length bc, .slice aa la.length ac, .slice ra rs.length rc, .int .u8 fl] 39)).alloc (.cells #[.int .u8 0, .int .u32 0, .int .u32 0, .int .u8 0, .slice none 0 0, .slice none 0 0, .slice none 0 0, .int .u8 0] 50))).cell? ⟨b,o,none⟩)∧(∀b o,b<(((w.alloc (.cells #[.int .u8 kind, .int .u32 ao, .int .u32 av, .int .u8 old, .slice ba lb.length bc, .slice aa la.length ac, .slice ra rs.length rc, .int .u8 fl] 39)).alloc (.cells #[.int .u8 0, .int .u32 0, .int .u32 0, .int .u8 0, .slice none 0 0, .slice none 0 0, .slice none 0 0, .int .u8 0] 50))).heap.size→w'.frozen? ⟨b,o,none⟩=(((w.alloc (.cells #[.int .u8 kind, .int .u32 ao, .int .u32 av, .int .u8 old, .slice ba lb.length bc, .slice aa la.length ac, .slice ra rs.length rc, .int .u8 fl] 39)).alloc (.cells #[.int .u8 0, .int .u32 0, .int .u32 0, .int .u8 0, .slice none 0 0, .slice none 0 0, .slice none 0 0, .int .u8 0] 50))).frozen? ⟨b,o,none⟩)) ((exact held_of (by exact eX)))
   (first
    |(go_at_call_of 34 (Value.slice ba lb.length bc);refine (HOB.out _ (by exact eX)).mono ?_;rintro e w3 ⟨b1,c1,rfl, -,hs3,hb3⟩;have H3:=Hm hs3;clear hs3;obtain ⟨hc3,hf3⟩:=hb3.cells;have hz3:=hb3.size;(try simp at hz3);have q3:w.heap.size+1<w3.heap.size:=(by omega);(try have q23:w2.heap.size<w3.heap.size:=(by omega));(try have p3:w.heap.size+1+1<w3.heap.size:=(by omega)))
    |(go_at_call_of 34 (Value.slice aa la.length ac);refine (HOA.out _ (by exact eX)).mono ?_;rintro e w4 ⟨a1,d1,rfl, -,hs4,hb4⟩;have H4:=Hm hs4;clear hs4;obtain ⟨hc4,hf4⟩:=hb4.cells;have hz4:=hb4.size;(try simp at hz4);have q4:w.heap.size+1<w4.heap.size:=(by omega);(try have p4:w.heap.size+1+1<w4.heap.size:=(by omega));(try have q24:w2.heap.size<w4.heap.size:=(by omega));(try have q35:w3.heap.size<w4.heap.size:=(by omega))))
  all_goals
   go_wp2
   go_meet
   case rel=>
    refine ⟨_,b1,c1,a1,d1,rfl,Hm ?_,Hm ?_,Hm ?_,Hm ?_,Hm ?_,Hm ?_,Hm ?_⟩
    ·repeat (with_reducible (first|exact Blk.new _ _ _|(refine Blk.new' _ _ ?_;(simp;done))|apply Blk.eight|refine Blk.alloc ?_ _|refine Blk.drew ?_|refine Blk.ext ?_ hb4|refine Blk.ext ?_ hb3))
    ·first|((with_reducible refine Fr.sl (Fr.eight (Fr.ext H3.out ?_) ?_));(· exact eX);(· first|(simp;done)|(simp;omega)|omega|(left;simp;done)|(left;simp;omega)|(right;simp;done)|(right;simp;omega)))|((with_reducible refine Fr.sl (Fr.ext H3.out ?_)); · exact eX)
    ·first|((with_reducible refine Fr.sl (Fr.eight (Fr.ext H4.out ?_) ?_));(· exact eX);(· first|(simp;done)|(simp;omega)|omega|(left;simp;done)|(left;simp;omega)|(right;simp;done)|(right;simp;omega)))|((with_reducible refine Fr.sl (Fr.ext H4.out ?_)); · exact eX)
    ·refine fun h0=>Fr.ne2 H3.out ?_ ?_ h0;(· first|(simp;done)|(simp;omega)|omega|(left;simp;done)|(left;simp;omega)|(right;simp;done)|(right;simp;omega));(· first|omega|(simp;omega)|simp)
    ·refine fun h0=>Fr.ne2 H4.out ?_ ?_ h0;(· first|(simp;done)|(simp;omega)|omega|(left;simp;done)|(left;simp;omega)|(right;simp;done)|(right;simp;omega));(· first|omega|(simp;omega)|simp)
    ·first|omega|(simp;omega)|simp
    ·first|exact eX|(repeat (with_reducible refine Ext.setCell ?_ (by first|(simp;done)|(simp;omega)|omega) _);exact eX)
 case rest=>
  obtain ⟨X,b1,c1,a1,d1,rfl,HX,HSB,HSA,HNB,HNA,HWX,HE⟩:=hcut
  have HEc:=Hm (show Ext w wc from (((Ext.refl w).alloc _).alloc _).trans HE.out)
  have HB1:=Hm (((Blk.new w #[.int .u8 kind, .int .u32 ao, .int .u32 av, .int .u8 old, .slice ba lb.length bc, .slice aa la.length ac, .slice ra rs.length rc, .int .u8 fl] 39).alloc (.cells #[.int .u8 0, .int .u32 0, .int .u32 0, .int .u8 0, .slice none 0 0, .slice none 0 0, .slice none 0 0, .int .u8 0] 50)).ext HE.out)
  have HB2:=Hm ((Blk.new' (w:=w.alloc (.cells #[.int .u8 kind, .int .u32 ao, .int .u32 av, .int .u8 old, .slice ba lb.length bc, .slice aa la.length ac, .slice ra rs.length rc, .int .u8 fl] 39)) (b:=w.heap.size+1) #[.int .u8 0, .int .u32 0, .int .u32 0, .int .u8 0, .slice none 0 0, .slice none 0 0, .slice none 0 0, .int .u8 0] 50 (by simp)).ext HE.out)
  clear HOB HOA
  have hzX:X<wc.heap.size:=HX.out.lt
  have hzw:w.heap.size<X:=by have:=HWX.out;omega
  have HZX:=Hm (And.intro hzX hzw)
  clear HE
  go_wp2
  go_loopw [4] (fun i wr=>∃(k:Nat) (va:Option Addr) (vc:Nat),k≤rs.length∧i= .int .i64 k∧Hid (Blk wr X #[.int .u8 kind, .int .u32 ao, .int .u32 av, .int .u8 old, .slice b1 lb.length c1, .slice a1 la.length d1, .slice va k vc, .int .u8 fl] 50)∧Hid (wr.ownsRow wc.heap.size 46 2 (.slice va k vc) k ((rs.take k).map Rf.cells).flatten)∧Hid (Kp (fun x=>x=X) wc wr)) (fun i _=>rs.length - (intOf i).toNat)
  case atStart=>exact ⟨0,none,0,Nat.zero_le _,rfl,HX,Hm (World.ownsRow_nil _ _ _ _),Hm Kp.refl⟩
  case round=>
   obtain ⟨k,va,vc,hk,rfl,hX,hown,hK⟩:=hrel
   have HEW:Hid (Ext w wr):=Hm (Kp.ext HEc.out (fun x hx _=>by have:=HZX.out.2;omega) hK.out)
   have HG1:Hid (Blk wr w.heap.size #[.int .u8 kind, .int .u32 ao, .int .u32 av, .int .u8 old, .slice ba lb.length bc, .slice aa la.length ac, .slice ra rs.length rc, .int .u8 fl] 39):=Hm (HB1.out.kp hK.out (by have:=HZX.out.2;omega))
   have g1:=HG1.out.cell
   have z1:=HG1.out.lt
   have gX:=hX.out.cell
   have gXf:=hX.out.frozen
   have zX:=hX.out.lt
   have hzc:=hK.out.size
   by_cases hlt:k<rs.length
   ·obtain ⟨b,o,rfl,hb,hx⟩:=HR.out.at_ (i:=k) (by simpa using hlt)
    have HF:=Hm (fun W (h:Ext w W)=>Rf.at_ hlt hx hb h)
    have HT:Hid (rs.take (k+1)=rs.take k++ [rs[k]]):=Hm (List.take_succ_eq_append_getElem hlt)
    obtain ⟨r,hr⟩:∃r,r=rs[k]:=⟨_,rfl⟩
    rw [←hr] at HF HT
    have HLT:Hid (k<rs.length):=Hm hlt
    have HBW:Hid (b<w.heap.size):=Hm hb
    clear hx hr hb
    have HS:Hid (∀w',Kp (fun x=>wc.heap.size≤x) wr w'→(∀j,w'.cell? ⟨w.heap.size,j,none⟩=(#[.int .u8 kind, .int .u32 ao, .int .u32 av, .int .u8 old, .slice ba lb.length bc, .slice aa la.length ac, .slice (some ⟨b,o,none⟩) rs.length rc, .int .u8 fl])[j]?)∧(∀j,w'.cell? ⟨X,j,none⟩=(#[.int .u8 kind, .int .u32 ao, .int .u32 av, .int .u8 old, .slice b1 lb.length c1, .slice a1 la.length d1, .slice va k vc, .int .u8 fl])[j]?)∧(∀j,w'.frozen? ⟨X,j,none⟩=false)∧w'.cell? ⟨b,o+k*2,none⟩=some (.int .u32 r.o)∧w'.cell? ⟨b,o+k*2+1,none⟩=some (.int .u32 r.v)∧b<w'.heap.size∧X<w'.heap.size∧w.heap.size<w'.heap.size):=Hm (fun w' h=>by
     have hE:Ext w w' :=Kp.ext HEc.out (S:=fun x=>x=X∨wc.heap.size≤x) (fun x hx _=>by have:=HZX.out;omega) ((hK.out.mono (T:=fun x=>x=X∨wc.heap.size≤x) (fun x hx _=> .inl hx)).trans h (fun x hx _=> .inr hx))
     have h1:=HG1.out.kp h (by have:=HZX.out;omega)
     have h2:=hX.out.kp h (by have:=HZX.out;omega)
     obtain ⟨f0,f1⟩:=HF.out w' hE
     exact ⟨h1.cell,h2.cell,h2.frozen,f0,f1,Nat.lt_of_lt_of_le HBW.out hE.size,h2.lt,h1.lt⟩)
    have HOWN:=hown
    go_wp2
    clear g1 gX gXf
    have hA0:Hid ((fun w' =>(∀j,w'.cell? ⟨w.heap.size,j,none⟩=(#[.int .u8 kind, .int .u32 ao, .int .u32 av, .int .u8 old, .slice ba lb.length bc, .slice aa la.length ac, .slice (some ⟨b,o,none⟩) rs.length rc, .int .u8 fl])[j]?)∧(∀j,w'.cell? ⟨X,j,none⟩=(#[.int .u8 kind, .int .u32 ao, .int .u32 av, .int .u8 old, .slice b1 lb.length c1, .slice a1 la.length d1, .slice va k vc, .int .u8 fl])[j]?)∧(∀j,w'.frozen? ⟨X,j,none⟩=false)∧w'.cell? ⟨b,o+k*2,none⟩=some (.int .u32 r.o)∧w'.cell? ⟨b,o+k*2+1,none⟩=some (.int .u32 r.v)∧b<w'.heap.size∧X<w'.heap.size∧w.heap.size<w'.heap.size) wr.drew):=Hm (HS.out _ (Kp.of_ext (Ext.refl wr).drew))
    refine wp_region_head 17 (fun w' =>(∀j,w'.cell? ⟨w.heap.size,j,none⟩=(#[.int .u8 kind, .int .u32 ao, .int .u32 av, .int .u8 old, .slice ba lb.length bc, .slice aa la.length ac, .slice (some ⟨b,o,none⟩) rs.length rc, .int .u8 fl])[j]?)∧(∀j,w'.cell? ⟨X,j,none⟩=(#[.int .u8 kind, .int .u32 ao, .int .u32 av, .int .u8 old, .slice b1 lb.length c1, .slice a1 la.length d1, .slice va k vc, .int .u8 fl])[j]?)∧(∀j,w'.frozen? ⟨X,j,none⟩=false)∧w'.cell? ⟨b,o+k*2,none⟩=some (.int .u32 r.o)∧w'.cell? ⟨b,o+k*2+1,none⟩=some (.int .u32 r.v)∧b<w'.heap.size∧X<w'.heap.size∧w.heap.size<w'.heap.size) (by kernel_rfl) (by decide) ?_
    (refine wpHd_take (i:=0) (v:= ?_) rfl (by kernel_rfl) (by kernel_rfl) (by kernel_rfl) (fun _ _ _ h=>h) (Or.inl ⟨by rfl, ?_⟩) hA0.out ?_;rotate_left 1; · (intro w' hS';(try dsimp only at hS');go_split_ands;go_simp;try with_reducible rfl))
    (refine wpHd_take (i:=1) (v:= ?_) rfl (by kernel_rfl) (by kernel_rfl) (by kernel_rfl) (fun _ _ _ h=>h) (Or.inl ⟨by rfl, ?_⟩) hA0.out ?_;rotate_left 1; · (intro w' hS';(try dsimp only at hS');go_split_ands;go_simp;try with_reducible rfl))
    (refine wpHd_take (i:=2) (v:= ?_) rfl (by kernel_rfl) (by kernel_rfl) (by kernel_rfl) (fun _ _ _ h=>h) (Or.inl ⟨by rfl, ?_⟩) hA0.out ?_;rotate_left 1; · (intro w' hS';(try dsimp only at hS');go_split_ands;go_simp;try with_reducible rfl))
    (refine wpHd_take (i:=3) (v:= ?_) rfl (by kernel_rfl) (by kernel_rfl) (by kernel_rfl) (fun _ _ _ h=>h) (Or.inl ⟨by rfl, ?_⟩) hA0.out ?_;rotate_left 1; · (intro w' hS';(try dsimp only at hS');go_split_ands;go_simp;try with_reducible rfl))
    (refine wpHd_take (i:=4) (v:= ?_) rfl (by kernel_rfl) (by kernel_rfl) (by kernel_rfl) (fun _ _ _ h=>h) (Or.inl ⟨by rfl, ?_⟩) hA0.out ?_;rotate_left 1; · (intro w' hS';(try dsimp only at hS');go_split_ands;go_simp;try with_reducible rfl))
    (refine wpHd_take (i:=5) (v:= ?_) rfl (by kernel_rfl) (by kernel_rfl) (by kernel_rfl) (fun _ _ _ h=>h) (Or.inl ⟨by rfl, ?_⟩) hA0.out ?_;rotate_left 1; · (intro w' hS';(try dsimp only at hS');go_split_ands;go_simp;try with_reducible rfl))
    (refine wpHd_take (i:=6) (v:= ?_) rfl (by kernel_rfl) (by kernel_rfl) (by kernel_rfl) (fun _ _ _ h=>h) (Or.inl ⟨by rfl, ?_⟩) hA0.out ?_;rotate_left 1; · (intro w' hS';(try dsimp only at hS');go_split_ands;go_simp;try with_reducible rfl))
    (refine wpHd_take (i:=7) (v:= ?_) rfl (by kernel_rfl) (by kernel_rfl) (by kernel_rfl) (fun _ _ _ h=>h) (Or.inl ⟨by rfl, ?_⟩) hA0.out ?_;rotate_left 1; · (intro w' hS';(try dsimp only at hS');go_split_ands;go_simp;try with_reducible rfl))
    (refine wpHd_take (i:=8) (v:= ?_) rfl (by kernel_rfl) (by kernel_rfl) (by kernel_rfl) (fun _ _ _ h=>h) (Or.inl ⟨by rfl, ?_⟩) hA0.out ?_;rotate_left 1; · (intro w' hS';(try dsimp only at hS');go_split_ands;go_simp;try with_reducible rfl))
    (refine wpHd_take (i:=9) (v:= ?_) rfl (by kernel_rfl) (by kernel_rfl) (by kernel_rfl) (fun _ _ _ h=>h) (Or.inl ⟨by rfl, ?_⟩) hA0.out ?_;rotate_left 1; · (intro w' hS';(try dsimp only at hS');go_split_ands;go_simp;try with_reducible rfl))
    (refine wpHd_take (i:=10) (v:= ?_) rfl (by kernel_rfl) (by kernel_rfl) (by kernel_rfl) (fun _ _ _ h=>h) (Or.inl ⟨by rfl, ?_⟩) hA0.out ?_;rotate_left 1; · (intro w' hS';(try dsimp only at hS');go_split_ands;go_simp;try with_reducible rfl))
    (refine wpHd_take (i:=11) (v:= ?_) rfl (by kernel_rfl) (by kernel_rfl) (by kernel_rfl) (fun _ _ _ h=>h) (Or.inl ⟨by rfl, ?_⟩) hA0.out ?_;rotate_left 1; · (intro w' hS';(try dsimp only at hS');go_split_ands;go_simp;try with_reducible rfl))
    (refine wpHd_take (i:=12) (v:= ?_) rfl (by kernel_rfl) (by kernel_rfl) (by kernel_rfl) (fun _ _ _ h=>h) (Or.inl ⟨by rfl, ?_⟩) hA0.out ?_;rotate_left 1; · (intro w' hS';(try dsimp only at hS');go_split_ands;go_simp;try with_reducible rfl))
    (refine wpHd_take (i:=13) (v:= ?_) rfl (by kernel_rfl) (by kernel_rfl) (by kernel_rfl) (fun _ _ _ h=>h) (Or.inl ⟨by rfl, ?_⟩) hA0.out ?_;rotate_left 1; · (intro w' hS';(try dsimp only at hS');go_split_ands;go_simp;try with_reducible rfl))
    (refine wpHd_take (i:=14) (v:= ?_) rfl (by kernel_rfl) (by kernel_rfl) (by kernel_rfl) (fun _ _ _ h=>h) (Or.inl ⟨by rfl, ?_⟩) hA0.out ?_;rotate_left 1; · (intro w' hS';(try dsimp only at hS');go_split_ands;go_simp;try with_reducible rfl))
    have HB7:Hid (Ext wr wr.drew):=Hm (Ext.refl wr).drew
    clear hA0
    refine wpHd_one (i:=15) rfl rfl (by kernel_rfl) (fun K hK=> ?_)
    go_simp
    refine hK.out _ _ (HS.out _ (Kp.of_ext (HB7.out.alloc _))) (fun hA=> ?_)
    clear hK K hA
    refine wpHd_one (i:=16) rfl rfl (by kernel_rfl) (fun K hK=> ?_)
    refine wp_append_lies _ _ _ 48 (by rfl) wc.heap.size 46 i0 _ 2 8 Tryz.underlying48 hi hz0 hz1 hz2 rfl (by decide) (.slice va k vc) k _ (by rfl) (owns_ext HOWN.out (HB7.out.alloc _)) ⟨_,0,none⟩ 1 1 r.cells (by rfl) rfl (cells_new _ #[.int .u32 r.o, .int .u32 r.v] _) (by intro u hu;simp [Rf.cells] at hu;rcases hu with rfl|rfl<;>rfl) (by decide) (by unfold maxLen;omega) (by omega) (by have:=HB7.out.size;simp;omega) _ rfl ?_
    intro g4 cap4 w4 hown4 hgrow4 hat4 hlt4
    have HO4:=Hm hown4
    have HKG:Hid (Kp (fun x=>wc.heap.size≤x) wr w4):=Hm ((Kp.of_ext (S:=fun x=>wc.heap.size≤x) (HB7.out.alloc _)).trans (Kp.of_grown hgrow4) (fun x hx _=>(HOWN.out.lt x hx).1))
    refine hK.out _ _ (HS.out _ HKG.out) (fun hA=> ?_)
    clear hK K hA hown4 hgrow4 hat4 hlt4
    have hX4:Hid (Blk w4 X #[.int .u8 kind, .int .u32 ao, .int .u32 av, .int .u8 old, .slice b1 lb.length c1, .slice a1 la.length d1, .slice va k vc, .int .u8 fl] 50):=Hm (hX.out.kp HKG.out (by have:=HZX.out;omega))
    have gX:=hX4.out.cell
    have gXf:=hX4.out.frozen
    have zX:=hX4.out.lt
    refine wpHd_tail (by kernel_rfl) ?_
    simp only [List.drop_succ_cons,List.drop_zero]
    go_wp2
    go_roundw
    case rel=>
     refine ⟨k+1,some ⟨g4,0,none⟩,cap4,by have:=HLT.out;omega,by go_num,Hm ?_,Hm ?_,Hm ?_⟩
     ·have:=hX4.out.set 6 (.slice (some ⟨g4,0,none⟩) (k+1) cap4)
      simpa only [List.setIfInBounds_toArray,List.set_cons_zero,List.set_cons_succ] using this
     ·rw [HT.out,List.map_append,List.flatten_append]
      exact owns_set (by simpa using HO4.out) (by show X<_;have:=HZX.out;omega) _
     ·exact ((hK.out.mono (T:=fun x=>x=X) (fun x hx _=>hx)).trans (HKG.out) (fun x hx h=>by omega)).trans (T:=fun x=>x=X) (Kp.set _ _ rfl) (fun x hx _=>hx)
    case measure=>have:=HLT.out;simp [intOf];omega
   ·obtain rfl:k=rs.length:=by omega
    rw [List.take_length] at hown
    have HB2r:Hid (Blk wr (w.heap.size+1) #[.int .u8 0, .int .u32 0, .int .u32 0, .int .u8 0, .slice none 0 0, .slice none 0 0, .slice none 0 0, .int .u8 0] 50):=Hm (HB2.out.kp hK.out (by have:=HWX.out;omega))
    have k2:=HB2r.out.cell
    have k2f:=HB2r.out.frozen
    have z2:=HB2r.out.lt
    go_wp2
    simp [bodyPost,results,Tryz.results10,go_sem, *]
    have hwr:=HZX.out
    have hw2:=HWX.out
    have hSB:Sl wr (.slice b1 lb.length c1) 6 (lb.map K.rc):=Sl.kp HSB.out hK.out (fun h0 b o e=>(HNB.out h0 b o e).1)
    have hSA:Sl wr (.slice a1 la.length d1) 6 (la.map K.rc):=Sl.kp HSA.out hK.out (fun h0 b o e=>(HNA.out h0 b o e).1)
    have hSR:Sl wr (.slice va rs.length vc) 2 (rs.map Rf.cells):=Sl.of_owns (base:=wc.heap.size) (e:=46) (by rw [List.length_map];exact hown.out) (by intro xs hxs;simp at hxs;obtain ⟨_,_,rfl⟩:=hxs;rfl)
    refine ⟨b1,c1,a1,d1,va,vc,⟨⟨rfl,rfl⟩,⟨rfl,rfl⟩,rfl,rfl⟩,⟨Sl.kp hSB Kp.eight (fun h0 b o e=>by have:=(HNB.out h0 b o e).2;omega),Sl.kp hSA Kp.eight (fun h0 b o e=>by have:=(HNA.out h0 b o e).2;omega),Sl.kp hSR Kp.eight (fun h0 b o e=>by have:=hown.out.lt b (by rw [show va=some ⟨b,o,none⟩ from e];rfl);omega)⟩,⟨fun h0 b o e=>by have:=(HNB.out (fun q=>h0 (by simpa using q)) b o e).2;omega,fun h0 b o e=>by have:=(HNA.out (fun q=>h0 (by simpa using q)) b o e).2;omega,fun h0 b o e=>by have:=hown.out.lt b (by rw [show va=some ⟨b,o,none⟩ from e];rfl);omega⟩,Kp.ext HEW.out (fun x hx _=>by omega) Kp.eight⟩
theorem eback_el (x:EL) (w:World) (hx:x.at 5 K.pc w) (hnb:x.e.b.length≤1000) (hna:x.e.a.length≤1000) (hnr:x.e.rs.length≤1000):
 Calls Tryz.prog 10 #[x.agg] w fun e w' =>∃y:EL,e= .returned y.agg∧y.e=x.e∧y.at 6 K.rc w'∧y.on (fun b=>w.heap.size≤b)∧Ext w w' :=by
 obtain ⟨⟨kind,ao,av,old,lb,la,rs,fl⟩,ba,bc,aa,ac,ra,rc⟩:=x
 refine (eback_any kind ao av old lb la rs fl ba aa ra bc ac rc w hx.b hx.a hx.r hnb hna hnr).mono fun e w' h=> ?_
 obtain ⟨b1,c1,a1,d1,r1,e1,h1,h2,h3,h4⟩:=h
 exact ⟨⟨⟨kind,ao,av,old,lb,la,rs,fl⟩,b1,c1,a1,d1,r1,e1⟩,h1,rfl,h2,h3,h4⟩
theorem uintR_u32 (st:RS):((uintR 4294967295 st).1:Int)<4294967296:=by have:=uintR_le (st:=st) 4294967295;omega
theorem takeref_any (g d:Nat) (st:RS) (w:World) (h:RD w g d st):
 Calls Tryz.prog 51 #[.pointer (some ⟨g,0,none⟩)] w (RPost g d w (.agg #[.int .u32 (refR st).1.o, .int .u32 (refR st).1.v]) (refR st).2):=by
 have H:=Hm h
 have HN1:=Hm (fun W (h:RD W g d st)=>number_any g d st W h)
 have HN2:=Hm (fun W (h:RD W g d (uintR 4294967295 st).2)=>number_any g d _ W h)
 have HR:Hid (refR st=(⟨((uintR 4294967295 st).1:Nat),((uintR 4294967295 (uintR 4294967295 st).2).1:Nat)⟩,(uintR 4294967295 (uintR 4294967295 st).2).2)):=Hm rfl
 have hlt:=h.lt
 unfold RPost at HN1 HN2⊢
 rw [HR.out]
 simp only
 generalize (uintR 4294967295 (uintR 4294967295 st).2).2=s2 at HN2⊢
 generalize (uintR 4294967295 (uintR 4294967295 st).2).1=y at HN2⊢
 generalize (uintR 4294967295 st).2=s1 at HN1 HN2⊢
 generalize (uintR 4294967295 st).1=x at HN1⊢
 clear h HR
 have hgw:g≠w.heap.size:=by omega
 go_enter Tryz.func51,Tryz.ntmps51
 go_upto_region 2 with (go_at_call 82;refine (HN1.out _ (H.out.ext (by exact eX))).mono ?_;rintro e w1 ⟨rfl,h1,t1⟩;have H1:=Hm h1;have T1:=Hm ((Tch.of_ext ((Ext.refl w).alloc _)).trans t1);have HV1:=Hm ((Blk.new w #[.int .u32 0, .int .u32 0] 34).tch t1 hgw.symm);clear h1 t1)
 go_wp2_with (go_at_call 82;refine (HN2.out _ H1.out).mono ?_;rintro e w2 ⟨rfl,h2,t2⟩;have H2:=Hm h2;have T2:=Hm (T1.out.trans t2);have HV2:=Hm (HV1.out.tch t2 hgw.symm);clear h2 t2;have gv:=HV2.out.cell;have fv:=HV2.out.frozen;have zv:=HV2.out.lt)
 have HG:=Hm (And.intro hlt hgw)
 have hr:RD ((w2.setCell ⟨w.heap.size,0,none⟩ (.int .u32 x)).setCell ⟨w.heap.size,1,none⟩ (.int .u32 y)) g d s2:=(H2.out.set HG.out.1 0 _).set HG.out.1 1 _
 have ht:Tch g w ((w2.setCell ⟨w.heap.size,0,none⟩ (.int .u32 x)).setCell ⟨w.heap.size,1,none⟩ (.int .u32 y)):=(T2.out.setNew (Nat.le_refl _) 0 _).setNew (Nat.le_refl _) 1 _
 simp [bodyPost,results,Tryz.results51,go_sem, *]
def Fw (B:Nat) (a:Option Addr):Prop:=∀k o,a=some ⟨k,o,none⟩→B≤k
theorem Fw.none (B:Nat):Fw B none:=fun _ _ e=>by cases e
theorem Tch.kp {g:Nat} {w w' :World} (h:Tch g w w'):Kp (fun x=>x=g) w w' :=⟨h.os,h.tape,h.output,h.size,h.block⟩
theorem Tryz.infoRfT:(Tryz.prog.info? 34).map (fun i=>(i.zero,i.size,i.bytes))=some (some (.agg #[.int .u32 0, .int .u32 0]),2,8):=by kernel_rfl
theorem refsR_succ (st:RS) (k:Nat):refsR st (k+1)=((refsR st k).1++ [(refR (refsR st k).2).1],(refR (refsR st k).2).2):=rfl
theorem truncate_any (Q g d:Nat) (st:RS) (W0 w:World) (hE:Ext W0 w) (hQ:W0.heap.size≤Q) (hg0:W0.heap.size≤g) (hQd:Q<d) (hQg:Q<g) (h:RD w g d st)
 (hP:Blk w Q #[.int .u8 7, .int .u32 0, .int .u32 0, .int .u8 0, .slice none 0 0, .slice none 0 0, .slice none 0 0, .int .u8 0, .slice none 0 0, .slice none 0 0] 42):
 Calls Tryz.prog 23 #[.pointer (some ⟨Q,0,none⟩), .pointer (some ⟨g,0,none⟩)] w fun e w' =>e= .returned (.tuple #[])∧∃ra rc,
  Blk w' Q #[.int .u8 7, .int .u32 0, .int .u32 0, .int .u8 0, .slice none 0 0, .slice none 0 0, .slice ra (truncR st).1.e.rs.length rc, .int .u8 (truncR st).1.e.fl, .slice none 0 0, .slice none 0 0] 42∧
  Sl w' (.slice ra (truncR st).1.e.rs.length rc) 2 ((truncR st).1.e.rs.map Rf.cells)∧RD w' g d (truncR st).2∧Ext W0 w'∧Fw W0.heap.size ra:=by
 obtain ⟨i0,hi,hz0,hz1,hz2⟩:=info_parts Tryz.infoRfT
 have hT:truncR st=(⟨⟨7,0,0,0, [], [],(refsR (uintR 8 (byteR st).2).2 (uintR 8 (byteR st).2).1).1,(byteR st).1⟩, [], []⟩,(refsR (uintR 8 (byteR st).2).2 (uintR 8 (byteR st).2).1).2):=rfl
 have HBY:=Hm (rbyte_any g d st w h)
 have HUI:=Hm (fun W (h:RD W g d (byteR st).2)=>ruint2_any g d (byteR st).2 8 W h (by decide))
 have hn8:=uintR_le (st:=(byteR st).2) 8
 have hlt:=h.lt
 unfold RPost at HBY HUI
 rw [hT]
 simp only
 generalize (uintR 8 (byteR st).2).2=s2 at HUI hn8⊢
 generalize (uintR 8 (byteR st).2).1=n at HUI hn8⊢
 generalize (byteR st).2=s1 at HBY HUI⊢
 generalize (byteR st).1=f at HBY⊢
 have HP:=Hm hP
 have HE:=Hm hE
 have HQ:=Hm (And.intro hQ (And.intro hQd (And.intro hQg hg0)))
 have HTR:=Hm (fun (S:RS) W (h:RD W g d S)=>takeref_any g d S W h)
 unfold RPost at HTR
 have HN8:=Hm hn8
 have hqg:Q≠g:=by omega
 clear h hP hE hT hQ hQd hg0
 go_enter Tryz.func23,Tryz.ntmps23
 go_upto_region 1 with (go_at_call 49;refine HBY.out.mono ?_;rintro e w1 ⟨rfl,h1,t1⟩;have H1:=Hm h1;have T1:=Hm t1;have HV1:=Hm (HP.out.tch t1 hqg);clear h1 t1;have gv:=HV1.out.cell;have fv:=HV1.out.frozen;have zv:=HV1.out.lt)
 have HB2:Hid (Blk (w1.setCell ⟨Q,7,none⟩ (.int .u8 f)) Q #[.int .u8 7, .int .u32 0, .int .u32 0, .int .u8 0, .slice none 0 0, .slice none 0 0, .slice none 0 0, .int .u8 f, .slice none 0 0, .slice none 0 0] 42):=Hm (by
  have:=HV1.out.set 7 (.int .u8 f)
  simpa only [List.setIfInBounds_toArray,List.set_cons_zero,List.set_cons_succ] using this)
 have HR2:Hid (RD (w1.setCell ⟨Q,7,none⟩ (.int .u8 f)) g d s1):=Hm (H1.out.tch (Tch.set1 Q w1 7 _) hqg (.inl HQ.out.2.1))
 have HE2:Hid (Ext W0 (w1.setCell ⟨Q,7,none⟩ (.int .u8 f))):=Hm ((Tch.ext HE.out HQ.out.2.2.2 T1.out).setCell HQ.out.1 _)
 obtain ⟨w2,hw2⟩:∃x,x=w1.setCell ⟨Q,7,none⟩ (.int .u8 f):=⟨_,rfl⟩
 rw [←hw2] at HB2 HR2 HE2⊢
 clear gv fv zv hw2 HV1 T1 H1 HP HE HBY
 go_upto_region 2 with (go_at_call 50;refine (HUI.out _ HR2.out).mono ?_;rintro e w3 ⟨rfl,h3,t3⟩;have H3:=Hm h3;have HB3:=Hm (HB2.out.tch t3 hqg);have HE3:=Hm (Tch.ext HE2.out HQ.out.2.2.2 t3);clear h3 t3)
 have HG3:=Hm (And.intro H3.out.lt HB3.out.lt)
 clear HB2 HR2 HE2 HUI
 go_loopg [12] n (fun z i wr=>∃(k:Nat) (va:Option Addr) (vc:Nat),z+k=n∧i= .int .u64 k∧Hid (Blk wr Q #[.int .u8 7, .int .u32 0, .int .u32 0, .int .u8 0, .slice none 0 0, .slice none 0 0, .slice va k vc, .int .u8 f, .slice none 0 0, .slice none 0 0] 42)∧Hid (wr.ownsRow w3.heap.size 34 2 (.slice va k vc) k ((refsR s2 k).1.map Rf.cells).flatten)∧Hid (RD wr g d (refsR s2 k).2)∧Hid (Ext W0 wr)∧Hid (w3.heap.size≤wr.heap.size))
 case atStart=>exact ⟨0,none,0,by omega,rfl,HB3,Hm (World.ownsRow_nil _ _ _ _),H3,HE3,Hm (Nat.le_refl _)⟩
 case round=>
  obtain ⟨k,va,vc,hzk,rfl,hX,hown,hR,hE,hSZ⟩:=hrel
  have hzc:=hE.out.size
  by_cases hlt:k<n
  ·have HTK:Hid (refsR s2 (k+1)=((refsR s2 k).1++ [(refR (refsR s2 k).2).1],(refR (refsR s2 k).2).2)):=Hm (refsR_succ s2 k)
   have HTP:=Hm (fun W (h:RD W g d (refsR s2 k).2)=>HTR.out (refsR s2 k).2 W h)
   obtain ⟨S,hS⟩:∃S,S=(refsR s2 k).2:=⟨_,rfl⟩
   obtain ⟨A,hA⟩:∃A,A=(refsR s2 k).1:=⟨_,rfl⟩
   rw [←hS] at HTK HTP hR
   rw [←hA] at HTK hown
   obtain ⟨r,hr⟩:∃r,r=(refR S).1:=⟨_,rfl⟩
   obtain ⟨S',hS'⟩:∃r,r=(refR S).2:=⟨_,rfl⟩
   rw [←hr,←hS'] at HTK HTP
   have HLT:=Hm hlt
   have hkn:(k:Int)<(n:Int):=by omega
   have HS:Hid (∀w',Kp (fun x=>x=g∨w3.heap.size≤x) wr w'→(∀j,w'.cell? ⟨Q,j,none⟩=(#[.int .u8 7, .int .u32 0, .int .u32 0, .int .u8 0, .slice none 0 0, .slice none 0 0, .slice va k vc, .int .u8 f, .slice none 0 0, .slice none 0 0])[j]?)∧Q<w'.heap.size):=Hm (fun w' h=>by
    have h2:=hX.out.kp h (by have:=HG3.out;have:=HQ.out;omega)
    exact ⟨h2.cell,h2.lt⟩)
   have HOWN:=hown
   clear hS hA hr hS'
   go_wp2
   have hA0:Hid ((fun w' =>(∀j,w'.cell? ⟨Q,j,none⟩=(#[.int .u8 7, .int .u32 0, .int .u32 0, .int .u8 0, .slice none 0 0, .slice none 0 0, .slice va k vc, .int .u8 f, .slice none 0 0, .slice none 0 0])[j]?)∧Q<w'.heap.size) wr.drew):=Hm (HS.out _ (Kp.of_ext (Ext.refl wr).drew))
   refine wp_region_head 10 (fun w' =>(∀j,w'.cell? ⟨Q,j,none⟩=(#[.int .u8 7, .int .u32 0, .int .u32 0, .int .u8 0, .slice none 0 0, .slice none 0 0, .slice va k vc, .int .u8 f, .slice none 0 0, .slice none 0 0])[j]?)∧Q<w'.heap.size) (by kernel_rfl) (by decide) ?_
   (refine wpHd_take (i:=0) (v:= ?_) rfl (by kernel_rfl) (by kernel_rfl) (by kernel_rfl) (fun _ _ _ h=>h) (Or.inl ⟨by rfl, ?_⟩) hA0.out ?_;rotate_left 1; · (intro w' hS';(try dsimp only at hS');go_split_ands;go_simp;try with_reducible rfl))
   (refine wpHd_take (i:=1) (v:= ?_) rfl (by kernel_rfl) (by kernel_rfl) (by kernel_rfl) (fun _ _ _ h=>h) (Or.inl ⟨by rfl, ?_⟩) hA0.out ?_;rotate_left 1; · (intro w' hS';(try dsimp only at hS');go_split_ands;go_simp;try with_reducible rfl))
   (refine wpHd_take (i:=2) (v:= ?_) rfl (by kernel_rfl) (by kernel_rfl) (by kernel_rfl) (fun _ _ _ h=>h) (Or.inl ⟨by rfl, ?_⟩) hA0.out ?_;rotate_left 1; · (intro w' hS';(try dsimp only at hS');go_split_ands;go_simp;try with_reducible rfl))
   (refine wpHd_take (i:=3) (v:= ?_) rfl (by kernel_rfl) (by kernel_rfl) (by kernel_rfl) (fun _ _ _ h=>h) (Or.inl ⟨by rfl, ?_⟩) hA0.out ?_;rotate_left 1; · (intro w' hS';(try dsimp only at hS');go_split_ands;go_simp;try with_reducible rfl))
   (refine wpHd_take (i:=4) (v:= ?_) rfl (by kernel_rfl) (by kernel_rfl) (by kernel_rfl) (fun _ _ _ h=>h) (Or.inl ⟨by rfl, ?_⟩) hA0.out ?_;rotate_left 1; · (intro w' hS';(try dsimp only at hS');go_split_ands;go_simp;try with_reducible rfl))
   (refine wpHd_take (i:=5) (v:= ?_) rfl (by kernel_rfl) (by kernel_rfl) (by kernel_rfl) (fun _ _ _ h=>h) (Or.inl ⟨by rfl, ?_⟩) hA0.out ?_;rotate_left 1; · (intro w' hS';(try dsimp only at hS');go_split_ands;go_simp;try with_reducible rfl))
   (refine wpHd_take (i:=6) (v:= ?_) rfl (by kernel_rfl) (by kernel_rfl) (by kernel_rfl) (fun _ _ _ h=>h) (Or.inl ⟨by rfl, ?_⟩) hA0.out ?_;rotate_left 1; · (intro w' hS';(try dsimp only at hS');go_split_ands;go_simp;try with_reducible rfl))
   clear hA0
   refine wpHd_one (i:=7) rfl rfl (by kernel_rfl) (fun K hK=> ?_)
   go_simp
   refine (HTP.out _ (hR.out.ext (Ext.refl wr).drew)).mono ?_
   rintro e w5 ⟨rfl,h5,t5⟩
   have H5:=Hm h5
   have HK5:Hid (Kp (fun x=>x=g) wr w5):=Hm ((Kp.of_ext (S:=fun x=>x=g) (Ext.refl wr).drew).trans t5.kp (fun x hx _=>hx))
   refine hK.out _ _ (HS.out _ (HK5.out.mono (fun x hx _=> .inl hx))) (fun hA=> ?_)
   clear hK K hA h5 t5
   have HOW5:=Hm (owns_kp HOWN.out HK5.out (fun b hb e=>by have:=(HOWN.out.lt b hb).1;have:=HG3.out;omega))
   refine wpHd_one (i:=8) rfl rfl (by kernel_rfl) (fun K hK=> ?_)
   go_simp
   refine hK.out _ _ (HS.out _ ((HK5.out.mono (T:=fun x=>x=g∨w3.heap.size≤x) (fun x hx _=> .inl hx)).trans (Kp.of_ext (S:=fun x=>x=g) ((Ext.refl w5).alloc _)) (fun x hx _=> .inl hx))) (fun hA=> ?_)
   clear hK K hA
   refine wpHd_one (i:=9) rfl rfl (by kernel_rfl) (fun K hK=> ?_)
   refine wp_append_lies _ _ _ 37 (by rfl) w3.heap.size 34 i0 _ 2 8 Tryz.underlying37 hi hz0 hz1 hz2 rfl (by decide) (.slice va k vc) k _ (by rfl) (owns_ext HOW5.out ((Ext.refl w5).alloc _)) ⟨_,0,none⟩ 1 1 r.cells (by rfl) rfl (cells_new _ #[.int .u32 r.o, .int .u32 r.v] _) (by intro u hu;simp [Rf.cells] at hu;rcases hu with rfl|rfl<;>rfl) (by decide) (by have:=HLT.out;have:=HN8.out;unfold maxLen;omega) (by have:=HLT.out;have:=HN8.out;omega) (by have:=HK5.out.size;have:=hSZ.out;simp;omega) _ rfl ?_
   intro g4 cap4 w4 hown4 hgrow4 hat4 hlt4
   have HO4:=Hm hown4
   have HKA:Hid (Kp (fun x=>w3.heap.size≤x) w5 w4):=Hm ((Kp.of_ext (S:=fun x=>w3.heap.size≤x) ((Ext.refl w5).alloc _)).trans (Kp.of_grown hgrow4) (fun x hx _=>(HOW5.out.lt x hx).1))
   have HKG:Hid (Kp (fun x=>x=g∨w3.heap.size≤x) wr w4):=Hm ((HK5.out.mono (T:=fun x=>x=g∨w3.heap.size≤x) (fun x hx _=> .inl hx)).trans HKA.out (fun x hx _=> .inr hx))
   refine hK.out _ _ (HS.out _ HKG.out) (fun hA=> ?_)
   clear hK K hA
   have HR4:Hid (RD w4 g d S'):=Hm ((H5.out.ext ((Ext.refl w5).alloc _)).grown hgrow4 (fun j hj=>by have:=(HOW5.out.lt j hj).1;have:=HG3.out;omega))
   clear hown4 hgrow4 hat4 hlt4
   have hX4:Hid (Blk w4 Q #[.int .u8 7, .int .u32 0, .int .u32 0, .int .u8 0, .slice none 0 0, .slice none 0 0, .slice va k vc, .int .u8 f, .slice none 0 0, .slice none 0 0] 42):=Hm (hX.out.kp HKG.out (by have:=HG3.out;have:=HQ.out;omega))
   have gX:=hX4.out.cell
   have gXf:=hX4.out.frozen
   have zX:=hX4.out.lt
   refine wpHd_tail (by kernel_rfl) ?_
   simp only [List.drop_succ_cons,List.drop_zero]
   go_wp2
   go_roundg (n - (k+1))
   case measure=>have:=HLT.out;omega
   case rel=>
    refine ⟨k+1,some ⟨g4,0,none⟩,cap4,Nat.sub_add_cancel HLT.out,by go_num,Hm ?_,Hm ?_,Hm ?_,Hm ?_,Hm (by have:=hSZ.out;have:=HKG.out.size;simp [World.setCell];omega)⟩
    ·have:=hX4.out.set 6 (.slice (some ⟨g4,0,none⟩) (k+1) cap4)
     simpa only [List.setIfInBounds_toArray,List.set_cons_zero,List.set_cons_succ] using this
    ·rw [HTK.out,List.map_append,List.flatten_append]
     exact owns_set (by simpa using HO4.out) (by show Q<_;have:=HG3.out;omega) _
    ·rw [HTK.out]
     exact HR4.out.tch (Tch.set1 Q w4 6 _) hqg (.inl HQ.out.2.1)
    ·exact (Kp.ext hE.out (fun x hx _=>by have:=HQ.out;have:=HG3.out;have:=HE3.out.size;omega) HKG.out).setCell HQ.out.1 _
  ·obtain rfl:k=n:=by omega
   go_wp2
   refine bodyPost_end (results_none rfl _ _ _) rfl ?_
   have hAL:(refsR s2 k).1.length=k:=refsR_len s2 k
   rw [hAL]
   refine ⟨rfl,va,vc,hX.out,Sl.of_owns (base:=w3.heap.size) (e:=34) (by rw [List.length_map,hAL];exact hown.out) (by intro xs hxs;simp at hxs;obtain ⟨_,_,rfl⟩:=hxs;rfl),hR.out,hE.out,fun b o e=>by have:=(hown.out.lt b (by rw [e];rfl)).1;have:=HE3.out.size;omega⟩
theorem RR.owned.cap {N:Nat} {W:World} {q:RR} (h:q.owned N W):q.r.cols.length≤q.c:=by
 obtain ⟨_,h⟩:=h
 rcases h with ⟨hv,hn⟩|⟨g,cap,cur,hv,_,hb,hn,_⟩
 ·omega
 ·simp only [Value.slice.injEq] at hv
  omega
theorem cget_not {N g:Nat} {c:Value} {ps:List RR} {o v:Int} {w:World} (hc:Ca w N g c ps) (h:hasR o v (ps.map RR.r)=false):
 Calls Tryz.prog 52 #[.pointer (some ⟨g,0,none⟩), .agg #[.int .u32 o, .int .u32 v]] w fun e w' =>∃(a' :Option Addr) (c' :Nat),e= .returned (.tuple #[.agg #[.int .u32 0, .int .u32 0, .string ⟨#[]⟩, .int .u8 0, .slice a' 0 c'], .bool false])∧RR.in w' ⟨RR.zero.r,a',c'⟩∧Ext w w' :=by
 refine (cget_any N g c ps o v w hc).mono fun e w' hq=> ?_
 obtain ⟨q,h1,h2,h3,h4⟩:=hq
 have hg:getP o v ps=none:=by
  have:=getP_is o v ps
  rw [h] at this
  exact Option.not_isSome_iff_eq_none.1 (by rw [this];simp)
 rw [hg,Option.getD_none] at h2
 obtain ⟨qr,qa,qc⟩:=q
 simp only at h2
 subst h2
 exact ⟨qa,qc,by rw [h1,h];rfl,h3.in,h4⟩
def PartAt (B Q:Nat) (p:Pt) (W:World):Prop:=
 ∃ba bc aa ac ra rc ha hc ga gc,Blk W Q #[.int .u8 p.e.kind, .int .u32 p.e.ao, .int .u32 p.e.av, .int .u8 p.e.old, .slice ba p.e.b.length bc, .slice aa p.e.a.length ac, .slice ra p.e.rs.length rc, .int .u8 p.e.fl, .slice ha p.hb.length hc, .slice ga p.ha.length gc] 42∧
  Sl W (.slice ba p.e.b.length bc) 5 (p.e.b.map K.pc)∧Sl W (.slice aa p.e.a.length ac) 5 (p.e.a.map K.pc)∧Sl W (.slice ra p.e.rs.length rc) 2 (p.e.rs.map Rf.cells)∧Sl W (.slice ha p.hb.length hc) 2 (p.hb.map Ho.cells)∧Sl W (.slice ga p.ha.length gc) 2 (p.ha.map Ho.cells)∧(Fw B ba∧Fw B aa∧Fw B ra∧Fw B ha∧Fw B ga)
theorem Sl.nil0 (W:World) (k:Nat):Sl W (.slice none 0 0) k []:=⟨none,0,rfl, .inl rfl⟩
theorem rows_any (kind ver:Int) (Q g d:Nat) (st:RS) (N gc0:Nat) (c:Value) (ps:List RR) (W0 w:World) (_hk:4≤kind∧kind≤6) (hE:Ext W0 w) (hQ:W0.heap.size≤Q) (hg0:W0.heap.size≤g) (hQd:Q<d) (hQg:Q<g) (h:RD w g d st) (hc:Ca W0 N gc0 c ps) (hP:Blk w Q #[.int .u8 kind, .int .u32 0, .int .u32 0, .int .u8 0, .slice none 0 0, .slice none 0 0, .slice none 0 0, .int .u8 0, .slice none 0 0, .slice none 0 0] 42):
 Calls Tryz.prog 24 #[.pointer (some ⟨Q,0,none⟩), .pointer (some ⟨g,0,none⟩), .pointer (some ⟨gc0,0,none⟩), .int .u8 ver] w fun e w' =>e= .returned (.tuple #[])∧PartAt W0.heap.size Q (rowsR kind (ps.map RR.r) ver st).1 w'∧RD w' g d (rowsR kind (ps.map RR.r) ver st).2∧Ext W0 w' :=by
 have HTR:=Hm (takeref_any g d st w h)
 have hlt:=h.lt
 have HRN:Hid (getR (refR st).1.o (refR st).1.v (ps.map RR.r)=none→rowsR kind (ps.map RR.r) ver st=(⟨⟨kind,(refR st).1.o,(refR st).1.v,0, [], [], [],0⟩, [], []⟩,giveS (refR st).2 10)):=Hm (fun e=>by unfold rowsR;rw [e])
 have HRS:Hid (∀r,getR (refR st).1.o (refR st).1.v (ps.map RR.r)=some r→rowsR kind (ps.map RR.r) ver st=rowR kind ver (refR st).1 r (refR st).2):=Hm (fun r e=>by unfold rowsR;rw [e])
 obtain ⟨R,hR⟩:∃R,R=rowsR kind (ps.map RR.r) ver st:=⟨_,rfl⟩
 rw [←hR] at HRN HRS⊢
 clear hR
 unfold RPost at HTR
 obtain ⟨⟨ao,av⟩,hao⟩:∃r,r=(refR st).1:=⟨_,rfl⟩
 rw [←hao] at HTR HRN HRS
 simp only at HTR HRN HRS
 generalize (refR st).2=s1 at HTR HRN HRS
 have HGY:=Hm (fun (r:Rl) (hg:getR ao av (ps.map RR.r)=some r) W (h:Ext W0 W)=>cget_is (hc.ext h) hg)
 have HGN:=Hm (fun (hg:hasR ao av (ps.map RR.r)=false) W (h:Ext W0 W)=>cget_not (hc.ext h) hg)
 have HBY:=Hm (fun S W h=>rbyte_any g d S W h)
 have HFA:=Hm (fun S x W h=>fail_any g d S x W h)
 unfold RPost at HBY HFA
 have HFB:=Hm (fun (r:Rl) (hg:getR ao av (ps.map RR.r)=some r)=>(show r.nm.size≤9223372036854775807∧(∀c∈r.cols,c.nm.size≤9223372036854775807)∧r.cols.length≤1000 from by
  obtain ⟨p,hp,hpr⟩:=List.mem_map.1 (getR_some hg).1
  have hwb:=hc.wb p hp
  have hn16:=hc.n16 hp
  rw [hpr] at hwb hn16
  exact ⟨hwb.nm,hwb.cs,by omega⟩))
 have HP:=Hm hP
 have HE:=Hm hE
 have HQ:=Hm (And.intro hQ (And.intro hQd (And.intro hQg hg0)))
 have hqg:Q≠g:=by omega
 clear h hP hE hQ hQd hg0 hc hao
 go_enter Tryz.func24,Tryz.ntmps24
 go_upto_region 1 with (go_at_call 51;refine HTR.out.mono ?_;rintro e w1 ⟨rfl,h1,t1⟩;have H1:=Hm h1;have HV1:=Hm (HP.out.tch t1 hqg);have HE1:=Hm (Tch.ext HE.out HQ.out.2.2.2 t1);clear h1 t1;have gv:=HV1.out.cell;have fv:=HV1.out.frozen;have zv:=HV1.out.lt)
 have HB2:Hid (Blk ((w1.setCell ⟨Q,1,none⟩ (.int .u32 ao)).setCell ⟨Q,2,none⟩ (.int .u32 av)) Q #[.int .u8 kind, .int .u32 ao, .int .u32 av, .int .u8 0, .slice none 0 0, .slice none 0 0, .slice none 0 0, .int .u8 0, .slice none 0 0, .slice none 0 0] 42):=Hm (by
  have:=(HV1.out.set 1 (.int .u32 ao)).set 2 (.int .u32 av)
  simpa only [List.setIfInBounds_toArray,List.set_cons_zero,List.set_cons_succ] using this)
 have HR2:Hid (RD ((w1.setCell ⟨Q,1,none⟩ (.int .u32 ao)).setCell ⟨Q,2,none⟩ (.int .u32 av)) g d s1):=Hm ((H1.out.tch (Tch.set1 Q w1 1 _) hqg (.inl HQ.out.2.1)).tch (Tch.set1 Q _ 2 _) hqg (.inl HQ.out.2.1))
 have HE2:Hid (Ext W0 ((w1.setCell ⟨Q,1,none⟩ (.int .u32 ao)).setCell ⟨Q,2,none⟩ (.int .u32 av))):=Hm ((HE1.out.setCell HQ.out.1 _).setCell HQ.out.1 _)
 obtain ⟨w2,hw2⟩:∃x,x=(w1.setCell ⟨Q,1,none⟩ (.int .u32 ao)).setCell ⟨Q,2,none⟩ (.int .u32 av):=⟨_,rfl⟩
 rw [←hw2] at HB2 HR2 HE2⊢
 clear gv fv zv hw2 HV1 H1 HP HE HTR HE1
 have gv:=HB2.out.cell
 have fv:=HB2.out.frozen
 have zv:=HB2.out.lt
 cases hg:getR ao av (ps.map RR.r) with
 |none=>
  have HGX:=Hm (HGN.out (getR_none.1 hg))
  obtain rfl:=HRN.out hg
  clear hg HRN HRS
  go_wp2_with (first
   |(go_at_call 52;refine (HGX.out _ HE2.out).mono ?_;rintro e w3 ⟨qa,qc,rfl, -,hb3⟩;have HX3:=Hm hb3;clear hb3 gv fv zv;(try simp only))
   |(go_at_call 53;refine (HFA.out s1 10 _ (HR2.out.ext (HX3.out.alloc _))).mono ?_;rintro e w4 ⟨rfl,h4,t4⟩;have H4:=Hm h4;have HB4:=Hm ((HB2.out.ext (HX3.out.alloc _)).tch t4 hqg);have HE4:=Hm (Tch.ext (HE2.out.trans (HX3.out.alloc _)) HQ.out.2.2.2 t4);clear h4 t4))
  refine bodyPost_ret (results_none rfl _ _ _) rfl ?_
  exact ⟨rfl,⟨none,0,none,0,none,0,none,0,none,0,HB4.out,Sl.nil0 _ _,Sl.nil0 _ _,Sl.nil0 _ _,Sl.nil0 _ _,Sl.nil0 _ _,Fw.none _,Fw.none _,Fw.none _,Fw.none _,Fw.none _⟩,H4.out,HE4.out⟩
 |some r=>
  have HGX:=Hm (HGY.out r hg)
  have HFB1:=Hm (HFB.out r hg)
  have HRR:=Hm (HRS.out r hg)
  clear hg HGY HGN HFB HRN HRS
  obtain ⟨oid,vr,nm,id,cols⟩:=r
  simp only at HFB1 HGX HRR
  go_upto_region 4 with (go_at_call 52;refine (HGX.out _ HE2.out).mono ?_;rintro e w3 ⟨⟨qr,qa,qc⟩,rfl,hqr,hqo,hb3⟩;simp only at hqr;subst hqr;have HQO:=Hm hqo;have HX3:=Hm hb3;clear hqo hb3 gv fv zv;(try simp only))
  have HXB:=Hm (Blk.new w3 #[.int .u32 oid, .int .u32 vr, .string nm, .int .u8 id, .slice qa cols.length qc] 120)
  have HQL:=Hm (HQO.out.in.ext ((Ext.refl w3).alloc (.cells #[.int .u32 oid, .int .u32 vr, .string nm, .int .u8 id, .slice qa cols.length qc] 120)))
  have HQA:=Hm (fun b o (e:qa=some ⟨b,o,none⟩)=>(RR.owned.at_ HQO.out e).1)
  have HQC:=Hm HQO.out.cap
  have HPG:=Hm (HB2.out.ext (HX3.out.alloc (.cells #[.int .u32 oid, .int .u32 vr, .string nm, .int .u8 id, .slice qa cols.length qc] 120)))
  have HRG:=Hm (HR2.out.ext (HX3.out.alloc (.cells #[.int .u32 oid, .int .u32 vr, .string nm, .int .u8 id, .slice qa cols.length qc] 120)))
  have HEG:=Hm (HE2.out.trans (HX3.out.alloc (.cells #[.int .u32 oid, .int .u32 vr, .string nm, .int .u8 id, .slice qa cols.length qc] 120)))
  have HSZ:=Hm (And.intro HB2.out.lt (And.intro HR2.out.lt HX3.out.size))
  obtain ⟨X,hX⟩:∃X,X=w3.heap.size:=⟨_,rfl⟩
  obtain ⟨wG,hwG⟩:∃W,W=w3.alloc (.cells #[.int .u32 oid, .int .u32 vr, .string nm, .int .u8 id, .slice qa cols.length qc] 120):=⟨_,rfl⟩
  rw [←hX] at HXB HSZ⊢
  rw [←hwG] at HXB HQL HPG HRG HEG⊢
  simp only at HQL HQA HQC
  clear hX hwG HQO HB2 HR2 HE2 HX3 HGX
  have gv:=HPG.out.cell
  have fv:=HPG.out.frozen
  have zv:=HPG.out.lt
  go_upto_if 35 with (fail)
  go_cut [] (fun wx=>Hid (Blk wx Q #[.int .u8 kind, .int .u32 ao, .int .u32 av, .int .u8 (oldR kind s1).1, .slice none 0 0, .slice none 0 0, .slice none 0 0, .int .u8 0, .slice none 0 0, .slice none 0 0] 42)∧Hid (RD wx g d (oldR kind s1).2)∧Hid (Kp (fun x=>x=Q∨x=g) wG wx))
  case first=>
   by_cases h4:kind=4
   ·have h4' :(kind !=4)=false:=by simpa using h4
    have HO:Hid (oldR kind s1=(0,s1)):=Hm (if_pos h4)
    clear h4
    go_wp2
    go_meet
    case rel=>rw [HO.out];exact ⟨HPG,HRG,Hm Kp.refl⟩
   ·have h4' :(kind !=4)=true:=by simpa using h4
    have HO:Hid (oldR kind s1=byteR s1):=Hm (if_neg h4)
    have HB:=Hm (HBY.out s1 _ HRG.out)
    obtain ⟨o,ho⟩:∃o,o=byteR s1:=⟨_,rfl⟩
    rw [←ho] at HB HO
    clear h4 ho
    go_wp2_with (go_at_call 49;refine HB.out.mono ?_;rintro e w4 ⟨rfl,h4,t4⟩;have H4:=Hm h4;have HP4:=Hm (HPG.out.tch t4 hqg);have HK4:=Hm (t4.kp.mono (T:=fun x=>x=Q∨x=g) (fun x hx _=> .inr hx));clear h4 t4 gv fv zv;have gv:=HP4.out.cell;have fv:=HP4.out.frozen;have zv:=HP4.out.lt)
    go_meet
    case rel=>
     rw [HO.out]
     refine ⟨Hm ?_,Hm (H4.out.tch (Tch.set1 Q _ 3 _) hqg (.inl HQ.out.2.1)),Hm (HK4.out.trans (T:=fun x=>x=Q∨x=g) (Kp.set _ _ (.inl rfl)) (fun x hx _=>hx))⟩
     have:=HP4.out.set 3 (.int .u8 o.1)
     simpa only [List.setIfInBounds_toArray,List.set_cons_zero,List.set_cons_succ] using this
  case rest=>
  obtain ⟨HP1,HR1,HK1⟩:=hcut
  obtain ⟨old,hold⟩:∃o,o=(oldR kind s1).1:=⟨_,rfl⟩
  obtain ⟨s2,hs2⟩:∃o,o=(oldR kind s1).2:=⟨_,rfl⟩
  have HRO:Hid (R=(⟨⟨kind,ao,av,old,(befR (⟨oid,vr,nm,id,cols⟩:Rl) ver old (capR old s2)).1.1,(aftR (⟨oid,vr,nm,id,cols⟩:Rl) ver kind (befR (⟨oid,vr,nm,id,cols⟩:Rl) ver old (capR old s2)).2).1.1, [],0⟩,(befR (⟨oid,vr,nm,id,cols⟩:Rl) ver old (capR old s2)).1.2,(aftR (⟨oid,vr,nm,id,cols⟩:Rl) ver kind (befR (⟨oid,vr,nm,id,cols⟩:Rl) ver old (capR old s2)).2).1.2⟩,(aftR (⟨oid,vr,nm,id,cols⟩:Rl) ver kind (befR (⟨oid,vr,nm,id,cols⟩:Rl) ver old (capR old s2)).2).2)):=Hm (by rw [HRR.out,hold,hs2];rfl)
  rw [←hold] at HP1
  rw [←hs2] at HR1
  clear hold hs2 gv fv zv HRR HBY
  have gv:=HP1.out.cell
  have fv:=HP1.out.frozen
  have zv:=HP1.out.lt
  go_upto_if 47 with (fail)
  go_cut [] (fun wx=>Hid (Blk wx Q #[.int .u8 kind, .int .u32 ao, .int .u32 av, .int .u8 old, .slice none 0 0, .slice none 0 0, .slice none 0 0, .int .u8 0, .slice none 0 0, .slice none 0 0] 42)∧Hid (RD wx g d (capR old s2))∧Hid (Kp (fun x=>x=Q∨x=g) wG wx))
  case first=>
   by_cases h2:2<old
   ·have HO:Hid (capR old s2=failS s2 14):=Hm (by unfold capR failS;rw [if_pos h2,if_pos (by decide)])
    have HF:=Hm (HFA.out s2 14 _ HR1.out)
    go_wp2_with (go_at_call 53;refine HF.out.mono ?_;rintro e w4 ⟨rfl,h4,t4⟩;have H4:=Hm h4;have HP4:=Hm (HP1.out.tch t4 hqg);have HK4:=Hm (HK1.out.trans (t4.kp.mono (T:=fun x=>x=Q∨x=g) (fun x hx _=> .inr hx)) (fun x hx _=>hx));clear h4 t4)
    go_meet
    case rel=>rw [HO.out];exact ⟨HP4,H4,HK4⟩
   ·have HO:Hid (capR old s2=s2):=Hm (if_neg h2)
    go_wp2
    go_meet
    case rel=>rw [HO.out];exact ⟨HP1,HR1,HK1⟩
  case rest=>
  obtain ⟨HP2,HR2,HK2⟩:=hcut
  clear gv fv zv HP1 HR1 HK1 HFA
  obtain ⟨s3,hs3⟩:∃o,o=capR old s2:=⟨_,rfl⟩
  rw [←hs3] at HR2 HRO
  clear hs3
  have gv:=HP2.out.cell
  have fv:=HP2.out.frozen
  have zv:=HP2.out.lt
  have HTA:=Hm (fun S W (h:RD W g d S) (hk:Kp (fun x=>x=Q∨x=g) wG W)=>take_any g d S oid vr nm id cols qa qc ver W h (HQL.out.kp hk (fun h0 b o e=>by have:=HQA.out b o e;have:=HSZ.out;omega)) (fun b o e _=>by have:=HQA.out b o e;have:=HSZ.out;omega) HQC.out HFB1.out.2.2 HFB1.out.2.1 HFB1.out.1)
  unfold TkPost at HTA
  simp only [take_same] at HTA
  have HXW:=Hm (fun W (hk:Kp (fun x=>x=Q∨x=g) wG W)=>HXB.out.kp hk (by have:=HSZ.out;omega))
  have gx:=(HXW.out _ HK2.out).cell
  have zx:=(HXW.out _ HK2.out).lt
  obtain ⟨RB,hRB⟩:∃o,o=befR (⟨oid,vr,nm,id,cols⟩:Rl) ver old s3:=⟨_,rfl⟩
  rw [←hRB] at HRO
  have HRB:=Hm hRB
  clear hRB HXB
  go_upto_if 55 with (fail)
  go_cut [] (fun wx=>∃ba bc ha hc,Hid (Blk wx Q (#[.int .u8 kind, .int .u32 ao, .int .u32 av, .int .u8 old, .slice ba RB.1.1.length bc, .slice none 0 0, .slice none 0 0, .int .u8 0, .slice ha RB.1.2.length hc, .slice none 0 0]) 42)∧Hid (Sl wx (.slice ba RB.1.1.length bc) 5 (RB.1.1.map K.pc))∧Hid (Sl wx (.slice ha RB.1.2.length hc) 2 (RB.1.2.map Ho.cells))∧Hid ((∀k o,ba=some ⟨k,o,none⟩→wG.heap.size≤k)∧(∀k o,ha=some ⟨k,o,none⟩→wG.heap.size≤k))∧Hid (RD wx g d RB.2)∧Hid (Kp (fun x=>x=Q∨x=g) wG wx))
  case first=>
   by_cases h0:old=0
   ·have h0' :(old !=0)=false:=by simpa using h0
    have HO:Hid (RB=(([], []),s3)):=Hm (by rw [HRB.out];exact if_pos h0)
    clear h0
    go_wp2
    go_meet
    case rel=>rw [HO.out];exact ⟨none,0,none,0,HP2,Hm (Sl.nil0 _ _),Hm (Sl.nil0 _ _),Hm ⟨(fun _ _ e=>by cases e),(fun _ _ e=>by cases e)⟩,HR2,HK2⟩
   ·have h0' :(old !=0)=true:=by simpa using h0
    have HO:Hid (RB=takeT (⟨oid,vr,nm,id,cols⟩:Rl) ver s3):=Hm (by rw [HRB.out];exact if_neg h0)
    have HF:=Hm (HTA.out s3 _ HR2.out HK2.out)
    rw [←HO.out] at HF
    clear h0
    go_wp2_with (go_at_call 54;refine HF.out.mono ?_;rintro e w4 ⟨a1,c1,a2,c2,rfl,hs1,hs2,hb1,hb2,h4,t4⟩;have H4:=Hm h4;have HS1:=Hm hs1;have HS2:=Hm hs2;have HBB:=Hm (And.intro hb1 hb2);have HP4:=Hm (HP2.out.tch t4 hqg);have HK4:=Hm (HK2.out.trans (t4.kp.mono (T:=fun x=>x=Q∨x=g) (fun x hx _=> .inr hx)) (fun x hx _=>hx));clear h4 t4 hs1 hs2 hb1 hb2 gv fv zv gx zx;have gv:=HP4.out.cell;have fv:=HP4.out.frozen;have zv:=HP4.out.lt)
    go_meet
    case rel=>
     have hsz:=HK2.out.size
     have hz:=HSZ.out
     have hzG:=HPG.out.lt
     have hk2:Kp (fun x=>x=Q) w4 ((w4.setCell ⟨Q,4,none⟩ (.slice a1 RB.1.1.length c1)).setCell ⟨Q,8,none⟩ (.slice a2 RB.1.2.length c2)):=(Kp.set (S:=fun x=>x=Q) _ _ rfl).trans (Kp.set (S:=fun x=>x=Q) _ _ rfl) (fun x hx _=>hx)
     refine ⟨a1,c1,a2,c2,Hm ?_,Hm (HS1.out.kp hk2 (fun _ b o e=>by have:=HBB.out.1 b o e;omega)),Hm (HS2.out.kp hk2 (fun _ b o e=>by have:=HBB.out.2 b o e;omega)),Hm ⟨fun b o e=>by have:=HBB.out.1 b o e;omega,fun b o e=>by have:=HBB.out.2 b o e;omega⟩,Hm ((H4.out.tch (Tch.set1 Q _ 4 _) hqg (.inl HQ.out.2.1)).tch (Tch.set1 Q _ 8 _) hqg (.inl HQ.out.2.1)),Hm (HK4.out.trans (hk2.mono (T:=fun x=>x=Q∨x=g) (fun x hx _=> .inl hx)) (fun x hx _=>hx))⟩
     have:=(HP4.out.set 4 (.slice a1 RB.1.1.length c1)).set 8 (.slice a2 RB.1.2.length c2)
     simpa only [List.setIfInBounds_toArray,List.set_cons_zero,List.set_cons_succ] using this
  case rest=>
  obtain ⟨ba,bc,ha,hc,HP3,HSB,HSH,HBB,HR3,HK3⟩:=hcut
  obtain ⟨RC,hRC⟩:∃o,o=aftR (⟨oid,vr,nm,id,cols⟩:Rl) ver kind RB.2:=⟨_,rfl⟩
  rw [←hRC] at HRO
  have HRC:=Hm hRC
  clear hRC gv fv zv gx zx HP2 HR2 HK2 HRB
  have gv:=HP3.out.cell
  have fv:=HP3.out.frozen
  have zv:=HP3.out.lt
  have gx:=(HXW.out _ HK3.out).cell
  have zx:=(HXW.out _ HK3.out).lt
  go_upto_if 75 with (fail)
  by_cases h6:kind=6
  ·have h6' :(kind !=6)=false:=by simpa using h6
   have HO:Hid (RC=(([], []),RB.2)):=Hm (by rw [HRC.out];exact if_pos h6)
   clear h6
   go_wp2
   refine bodyPost_end (results_none rfl _ _ _) rfl ?_
   rw [HRO.out,HO.out]
   exact ⟨rfl,⟨ba,bc,none,0,none,0,ha,hc,none,0,HP3.out,HSB.out,Sl.nil0 _ _,Sl.nil0 _ _,HSH.out,Sl.nil0 _ _,(fun b o e=>by have:=HBB.out.1 b o e;have:=HEG.out.size;omega),Fw.none _,Fw.none _,(fun b o e=>by have:=HBB.out.2 b o e;have:=HEG.out.size;omega),Fw.none _⟩,HR3.out,Kp.ext HEG.out (fun x hx _=>by have:=HQ.out;omega) HK3.out⟩
  ·have h6' :(kind !=6)=true:=by simpa using h6
   have HO:Hid (RC=takeT (⟨oid,vr,nm,id,cols⟩:Rl) ver RB.2):=Hm (by rw [HRC.out];exact if_neg h6)
   have HF:=Hm (HTA.out RB.2 _ HR3.out HK3.out)
   rw [←HO.out] at HF
   clear h6
   go_wp2_with (go_at_call 54;refine HF.out.mono ?_;rintro e w4 ⟨a1,c1,a2,c2,rfl,hs1,hs2,hb1,hb2,h4,t4⟩;have H4:=Hm h4;have HS1:=Hm hs1;have HS2:=Hm hs2;have HBD:=Hm (And.intro hb1 hb2);have HT4:=Hm t4;have HP4:=Hm (HP3.out.tch t4 hqg);have HK4:=Hm (HK3.out.trans (t4.kp.mono (T:=fun x=>x=Q∨x=g) (fun x hx _=> .inr hx)) (fun x hx _=>hx));clear h4 t4 hs1 hs2 hb1 hb2 gv fv zv gx zx;have gv:=HP4.out.cell;have fv:=HP4.out.frozen;have zv:=HP4.out.lt)
   refine bodyPost_end (results_none rfl _ _ _) rfl ?_
   rw [HRO.out]
   have hsz:=HK3.out.size
   have hz:=HSZ.out
   have hzG:=HPG.out.lt
   have hlg:=HRG.out.lt
   have hk2:Kp (fun x=>x=Q) w4 ((w4.setCell ⟨Q,5,none⟩ (.slice a1 RC.1.1.length c1)).setCell ⟨Q,9,none⟩ (.slice a2 RC.1.2.length c2)):=(Kp.set (S:=fun x=>x=Q) _ _ rfl).trans (Kp.set (S:=fun x=>x=Q) _ _ rfl) (fun x hx _=>hx)
   refine ⟨rfl,⟨ba,bc,a1,c1,none,0,ha,hc,a2,c2, ?_,(HSB.out.kp HT4.out.kp (fun _ b o e=>by have:=HBB.out.1 b o e;omega)).kp hk2 (fun _ b o e=>by have:=HBB.out.1 b o e;omega),HS1.out.kp hk2 (fun _ b o e=>by have:=HBD.out.1 b o e;omega),Sl.nil0 _ _,(HSH.out.kp HT4.out.kp (fun _ b o e=>by have:=HBB.out.2 b o e;omega)).kp hk2 (fun _ b o e=>by have:=HBB.out.2 b o e;omega),HS2.out.kp hk2 (fun _ b o e=>by have:=HBD.out.2 b o e;omega),(fun b o e=>by have:=HBB.out.1 b o e;have:=HEG.out.size;omega),(fun b o e=>by have:=HBD.out.1 b o e;have:=HEG.out.size;omega),Fw.none _,(fun b o e=>by have:=HBB.out.2 b o e;have:=HEG.out.size;omega),(fun b o e=>by have:=HBD.out.2 b o e;have:=HEG.out.size;omega)⟩,(H4.out.tch (Tch.set1 Q _ 5 _) hqg (.inl HQ.out.2.1)).tch (Tch.set1 Q _ 9 _) hqg (.inl HQ.out.2.1),Kp.ext HEG.out (fun x hx _=>by have:=HQ.out;omega) (HK4.out.trans (hk2.mono (T:=fun x=>x=Q∨x=g) (fun x hx _=> .inl hx)) (fun x hx _=>hx))⟩
   have hh:=(HP4.out.set 5 (.slice a1 RC.1.1.length c1)).set 9 (.slice a2 RC.1.2.length c2)
   simp only [List.setIfInBounds_toArray,List.set_cons_zero,List.set_cons_succ] at hh
   exact hh
def PartHas (p:Pt) (W:World) (ba aa ra ha ga:Option Addr) (bc ac rc hc gc:Nat):Prop:=
 Sl W (.slice ba p.e.b.length bc) 5 (p.e.b.map K.pc)∧Sl W (.slice aa p.e.a.length ac) 5 (p.e.a.map K.pc)∧Sl W (.slice ra p.e.rs.length rc) 2 (p.e.rs.map Rf.cells)∧Sl W (.slice ha p.hb.length hc) 2 (p.hb.map Ho.cells)∧Sl W (.slice ga p.ha.length gc) 2 (p.ha.map Ho.cells)
theorem PartHas.ext {p:Pt} {W W' :World} {ba aa ra ha ga:Option Addr} {bc ac rc hc gc:Nat} (h:PartHas p W ba aa ra ha ga bc ac rc hc gc) (he:Ext W W'):PartHas p W' ba aa ra ha ga bc ac rc hc gc:=⟨h.1.ext he,h.2.1.ext he,h.2.2.1.ext he,h.2.2.2.1.ext he,h.2.2.2.2.ext he⟩
theorem PartHas.zero (W:World):PartHas Pt.zero W none none none none none 0 0 0 0 0:=⟨Sl.nil0 _ _,Sl.nil0 _ _,Sl.nil0 _ _,Sl.nil0 _ _,Sl.nil0 _ _⟩
def TakeQ (p:Pt) (E:Int) (w:World) (e:Ending) (w' :World):Prop:=
 ∃ba aa ra ha ga bc ac rc hc gc,e= .returned (.tuple #[.agg #[.int .u8 p.e.kind, .int .u32 p.e.ao, .int .u32 p.e.av, .int .u8 p.e.old, .slice ba p.e.b.length bc, .slice aa p.e.a.length ac, .slice ra p.e.rs.length rc, .int .u8 p.e.fl, .slice ha p.hb.length hc, .slice ga p.ha.length gc], .int .i64 E])∧PartHas p w' ba aa ra ha ga bc ac rc hc gc∧Ext w w'
theorem Blk.ten {W:World} {b:Nat} {u0 u1 u2 u3 u4 u5 u6 u7 u8 u9 v0 v1 v2 v3 v4 v5 v6 v7 v8 v9:Value} {T:TypeId} (h:Blk W b #[u0,u1,u2,u3,u4,u5,u6,u7,u8,u9] T):
 Blk ((((((((((W.setCell ⟨b,0,none⟩ v0).setCell ⟨b,1,none⟩ v1).setCell ⟨b,2,none⟩ v2).setCell ⟨b,3,none⟩ v3).setCell ⟨b,4,none⟩ v4).setCell ⟨b,5,none⟩ v5).setCell ⟨b,6,none⟩ v6).setCell ⟨b,7,none⟩ v7).setCell ⟨b,8,none⟩ v8).setCell ⟨b,9,none⟩ v9) b #[v0,v1,v2,v3,v4,v5,v6,v7,v8,v9] T:=by
 have h1:=(((((((((h.set 0 v0).set 1 v1).set 2 v2).set 3 v3).set 4 v4).set 5 v5).set 6 v6).set 7 v7).set 8 v8).set 9 v9
 simpa only [List.setIfInBounds_toArray,List.set_cons_zero,List.set_cons_succ] using h1
theorem Ext.ten {W0 W:World} {b:Nat} {v0 v1 v2 v3 v4 v5 v6 v7 v8 v9:Value} (h:Ext W0 W) (hb:W0.heap.size≤b):Ext W0 ((((((((((W.setCell ⟨b,0,none⟩ v0).setCell ⟨b,1,none⟩ v1).setCell ⟨b,2,none⟩ v2).setCell ⟨b,3,none⟩ v3).setCell ⟨b,4,none⟩ v4).setCell ⟨b,5,none⟩ v5).setCell ⟨b,6,none⟩ v6).setCell ⟨b,7,none⟩ v7).setCell ⟨b,8,none⟩ v8).setCell ⟨b,9,none⟩ v9):=by
 repeat refine Ext.setCell ?_ hb _
 exact h
theorem Kp.ten {W:World} {b:Nat} {v0 v1 v2 v3 v4 v5 v6 v7 v8 v9:Value} :Kp (fun x=>x=b) W ((((((((((W.setCell ⟨b,0,none⟩ v0).setCell ⟨b,1,none⟩ v1).setCell ⟨b,2,none⟩ v2).setCell ⟨b,3,none⟩ v3).setCell ⟨b,4,none⟩ v4).setCell ⟨b,5,none⟩ v5).setCell ⟨b,6,none⟩ v6).setCell ⟨b,7,none⟩ v7).setCell ⟨b,8,none⟩ v8).setCell ⟨b,9,none⟩ v9):=by
 have hs:∀(W:World) i v,Kp (fun x=>x=b) W (W.setCell ⟨b,i,none⟩ v):=fun W i v=>Kp.set (S:=fun x=>x=b) ⟨b,i,none⟩ v rfl
 have ht:∀ {A B C:World},Kp (fun x=>x=b) A B→Kp (fun x=>x=b) B C→Kp (fun x=>x=b) A C:=fun h k=>h.trans k (fun x hx _=>hx)
 exact ht (ht (ht (ht (ht (ht (ht (ht (ht (hs _ _ _) (hs _ _ _)) (hs _ _ _)) (hs _ _ _)) (hs _ _ _)) (hs _ _ _)) (hs _ _ _)) (hs _ _ _)) (hs _ _ _)) (hs _ _ _)
theorem res_part {W:World} {b:Nat} {v0 v1 v2 v3 v4 v5 v6 v7 v8 v9 E:Value} {tm:Array Value} (h:Blk W b #[v0,v1,v2,v3,v4,v5,v6,v7,v8,v9] 42) (ht:tm.getD 8 undef= .pointer (some ⟨b,0,none⟩)) (hm:tm.getD 9 undef=E):
 (results Tryz.f7 tm).run Tryz.prog W= .ok (.tuple #[.agg #[v0,v1,v2,v3,v4,v5,v6,v7,v8,v9],E]) W:=by
 have c:=h.cell
 have c0:=c 0
 have c1:=c 1
 have c2:=c 2
 have c3:=c 3
 have c4:=c 4
 have c5:=c 5
 have c6:=c 6
 have c7:=c 7
 have c8:=c 8
 have c9:=c 9
 clear c h
 simp at c0 c1 c2 c3 c4 c5 c6 c7 c8 c9
 rw [Array.getD_eq_getD_getElem?] at ht hm
 simp [results,Tryz.results7,go_sem,ht,hm,c0,c1,c2,c3,c4,c5,c6,c7,c8,c9]
theorem rectake_any (kind ver:Int) (v:Value) (l:List Int) (N gc0:Nat) (c:Value) (ps:List RR) (w:World) (hl:Sl w v 1 (l.map bcell)) (hlen:l.length≤1000000) (hb:isB l) (hc:Ca w N gc0 c ps):
 Calls Tryz.prog 7 #[.pointer (some ⟨gc0,0,none⟩), .int .u8 kind,v, .int .u8 ver] w (TakeQ (takeEP (ps.map RR.r) kind l ver) (takeEE (ps.map RR.r) kind l ver) w):=by
 have HRD:=Hm (fun W (h:Ext w W)=>read_any v l W (hl.ext h) hlen hb)
 have HC:=Hm hc
 clear hl hb hc
 have HBAD:Hid (∀E,E≠0→takeEE (ps.map RR.r) kind l ver=E→takeEP (ps.map RR.r) kind l ver=Pt.zero):=Hm (fun E h0 hE=>by unfold takeEP;rw [hE,if_neg h0])
 by_cases hk4:kind<4
 ·have HE:=Hm (show takeEE (ps.map RR.r) kind l ver=7 from if_pos (.inl hk4))
  go_enter Tryz.func7,Tryz.ntmps7
  go_wp2
  refine bodyPost_ret (v:= .tuple #[.agg #[.int .u8 0, .int .u32 0, .int .u32 0, .int .u8 0, .slice none 0 0, .slice none 0 0, .slice none 0 0, .int .u8 0, .slice none 0 0, .slice none 0 0], .int .i64 7]) (res_part (Blk.new w _ _) rfl rfl) rfl ?_
  rw [HBAD.out 7 (by decide) HE.out,HE.out]
  exact ⟨none,none,none,none,none,0,0,0,0,0,rfl,PartHas.zero _,by exact eX⟩
 by_cases hk7:7<kind
 ·have HE:=Hm (show takeEE (ps.map RR.r) kind l ver=7 from if_pos (.inr hk7))
  go_enter Tryz.func7,Tryz.ntmps7
  go_wp2
  refine bodyPost_ret (v:= .tuple #[.agg #[.int .u8 0, .int .u32 0, .int .u32 0, .int .u8 0, .slice none 0 0, .slice none 0 0, .slice none 0 0, .int .u8 0, .slice none 0 0, .slice none 0 0], .int .i64 7]) (res_part (Blk.new w _ _) rfl rfl) rfl ?_
  rw [HBAD.out 7 (by decide) HE.out,HE.out]
  exact ⟨none,none,none,none,none,0,0,0,0,0,rfl,PartHas.zero _,by exact eX⟩
 have HK0:Hid (¬ (kind<4∨7<kind)):=Hm (by omega)
 by_cases hv1:ver<1
 ·have HE:=Hm (show takeEE (ps.map RR.r) kind l ver=18 from by unfold takeEE;rw [if_neg HK0.out,if_neg (by omega)])
  go_enter Tryz.func7,Tryz.ntmps7
  go_wp2
  refine bodyPost_ret (v:= .tuple #[.agg #[.int .u8 0, .int .u32 0, .int .u32 0, .int .u8 0, .slice none 0 0, .slice none 0 0, .slice none 0 0, .int .u8 0, .slice none 0 0, .slice none 0 0], .int .i64 18]) (res_part (Blk.new w _ _) rfl rfl) rfl ?_
  rw [HBAD.out 18 (by decide) HE.out,HE.out]
  exact ⟨none,none,none,none,none,0,0,0,0,0,rfl,PartHas.zero _,by exact eX⟩
 by_cases hv2:2<ver
 ·have HE:=Hm (show takeEE (ps.map RR.r) kind l ver=18 from by unfold takeEE;rw [if_neg HK0.out,if_neg (by omega)])
  go_enter Tryz.func7,Tryz.ntmps7
  go_wp2
  refine bodyPost_ret (v:= .tuple #[.agg #[.int .u8 0, .int .u32 0, .int .u32 0, .int .u8 0, .slice none 0 0, .slice none 0 0, .slice none 0 0, .int .u8 0, .slice none 0 0, .slice none 0 0], .int .i64 18]) (res_part (Blk.new w _ _) rfl rfl) rfl ?_
  rw [HBAD.out 18 (by decide) HE.out,HE.out]
  exact ⟨none,none,none,none,none,0,0,0,0,0,rfl,PartHas.zero _,by exact eX⟩
 have HE:Hid (takeEE (ps.map RR.r) kind l ver=endE (bodyE kind (ps.map RR.r) ver ⟨l,0⟩).2):=Hm (by unfold takeEE;rw [if_neg HK0.out,if_pos (by omega)])
 have HP:Hid (takeEE (ps.map RR.r) kind l ver=0→takeEP (ps.map RR.r) kind l ver=(bodyE kind (ps.map RR.r) ver ⟨l,0⟩).1):=Hm (fun h=>by unfold takeEP;rw [if_pos h])
 have HTC:=Hm (fun (Q g d:Nat) (W0 W:World) (hE:Ext W0 W) (hQ:W0.heap.size≤Q) (hg0:W0.heap.size≤g) (hQd:Q<d) (hQg:Q<g) (h:RD W g d ⟨l,0⟩) hP=>truncate_any Q g d ⟨l,0⟩ W0 W hE hQ hg0 hQd hQg h hP)
 have HRW:=Hm (fun (Q g d:Nat) (W0 W:World) (hE:Ext W0 W) (hQ:W0.heap.size≤Q) (hg0:W0.heap.size≤g) (hQd:Q<d) (hQg:Q<g) (h:RD W g d ⟨l,0⟩) (hC:Ca W0 N gc0 c ps) (hk:4≤kind∧kind≤6) hP=>rows_any kind ver Q g d ⟨l,0⟩ N gc0 c ps W0 W hk hE hQ hg0 hQd hQg h hC hP)
 have HEN:=Hm (fun g d S W (h:RD W g d S)=>rend_any g d S W h)
 obtain ⟨EE,hEE⟩:∃E,E=takeEE (ps.map RR.r) kind l ver:=⟨_,rfl⟩
 obtain ⟨PP,hPP⟩:∃E,E=takeEP (ps.map RR.r) kind l ver:=⟨_,rfl⟩
 rw [←hEE,←hPP] at HBAD HP⊢
 rw [←hEE] at HE
 clear hEE hPP
 go_enter Tryz.func7,Tryz.ntmps7
 go_upto_region 8 with (go_at_call 22;refine (HRD.out _ (by exact eX)).mono ?_;rintro e w1 ⟨g,rfl,hg,hr,hb1⟩;have HG:=Hm hg;have HR1:=Hm hr;have HX1:=Hm hb1;clear hg hr hb1)
 obtain ⟨wA,hwA⟩:∃W,W=w.alloc (.cells #[.int .u8 0, .int .u32 0, .int .u32 0, .int .u8 0, .slice none 0 0, .slice none 0 0, .slice none 0 0, .int .u8 0, .slice none 0 0, .slice none 0 0] 42):=⟨_,rfl⟩
 have hQA:wA.heap.size=w.heap.size+1:=by rw [hwA];simp
 have HBA:Hid (Blk wA w.heap.size #[.int .u8 0, .int .u32 0, .int .u32 0, .int .u8 0, .slice none 0 0, .slice none 0 0, .slice none 0 0, .int .u8 0, .slice none 0 0, .slice none 0 0] 42):=Hm (by rw [hwA];exact Blk.new w _ _)
 have HEA:Hid (Ext w wA):=Hm (by rw [hwA];exact (Ext.refl w).alloc _)
 rw [←hwA] at HG HX1 HR1
 have HB1:Hid (Blk w1 wA.heap.size #[.int .u8 kind, .int .u32 0, .int .u32 0, .int .u8 0, .slice none 0 0, .slice none 0 0, .slice none 0 0, .int .u8 0, .slice none 0 0, .slice none 0 0] 42):=Hm ((Blk.new wA #[.int .u8 kind, .int .u32 0, .int .u32 0, .int .u8 0, .slice none 0 0, .slice none 0 0, .slice none 0 0, .int .u8 0, .slice none 0 0, .slice none 0 0] 42).ext HX1.out)
 have HE1:Hid (Ext wA w1):=Hm (((Ext.refl wA).alloc (.cells #[.int .u8 kind, .int .u32 0, .int .u32 0, .int .u8 0, .slice none 0 0, .slice none 0 0, .slice none 0 0, .int .u8 0, .slice none 0 0, .slice none 0 0] 42)).trans HX1.out)
 obtain ⟨D,hD⟩:∃D,D=(wA.alloc (.cells #[.int .u8 kind, .int .u32 0, .int .u32 0, .int .u8 0, .slice none 0 0, .slice none 0 0, .slice none 0 0, .int .u8 0, .slice none 0 0, .slice none 0 0] 42)).heap.size:=⟨_,rfl⟩
 have hD1:D=wA.heap.size+1:=by rw [hD];simp
 rw [←hD] at HG HR1
 have HQ:Hid (wA.heap.size<D∧wA.heap.size<g):=Hm (by have h:=HG.out;omega)
 obtain ⟨Q,hQ⟩:∃Q,Q=wA.heap.size:=⟨_,rfl⟩
 have hQW:w.heap.size+1=Q:=by omega
 have HQL:Hid (wA.heap.size≤Q):=Hm (by omega)
 have HQW:Hid (w.heap.size<wA.heap.size):=Hm (by omega)
 have hBQ:=HB1.out
 have hQQ:=HQ.out
 rw [←hQ] at hBQ
 have HBQ:=Hm hBQ
 have HGA:Hid (wA.heap.size≤g∧Q<D∧Q<g):=Hm (by omega)
 rw [hQW]
 have HCA:=Hm (HC.out.ext HEA.out)
 have HTF:=Hm (fun hP=>HTC.out Q g D wA w1 HE1.out HQL.out HGA.out.1 HGA.out.2.1 HGA.out.2.2 HR1.out hP)
 have HRF:=Hm (fun hk=>HRW.out Q g D wA w1 HE1.out HQL.out HGA.out.1 HGA.out.2.1 HGA.out.2.2 HR1.out HCA.out hk HBQ.out)
 clear hwA hD hD1 hQ hQW hBQ hQQ hQA HC HRD HTC HRW HX1 HG HB1 HQ
 go_upto_if 35 with (fail)
 go_cut [] (fun wx=>Hid (PartAt wA.heap.size Q (bodyE kind (ps.map RR.r) ver ⟨l,0⟩).1 wx)∧Hid (RD wx g D (bodyE kind (ps.map RR.r) ver ⟨l,0⟩).2)∧Hid (Ext wA wx))
 case first=>
  by_cases h7:kind=7
  ·subst h7
   have HF:=Hm (HTF.out HBQ.out)
   have HBE:Hid (bodyE 7 (ps.map RR.r) ver ⟨l,0⟩=truncR ⟨l,0⟩):=Hm (if_pos rfl)
   go_wp2_with (go_at_call 23;refine HF.out.mono ?_;rintro e w2 ⟨rfl,ra,rc,hp2,hs2,hr2,he2,hf2⟩;have HF2:=Hm hf2;have HP2:=Hm hp2;have HS2:=Hm hs2;have HR2:=Hm hr2;have HE2:=Hm he2;clear hp2 hs2 hr2 he2 hf2)
   go_meet
   case rel=>
    rw [HBE.out]
    exact ⟨Hm ⟨none,0,none,0,ra,rc,none,0,none,0,HP2.out,Sl.nil0 _ _,Sl.nil0 _ _,HS2.out,Sl.nil0 _ _,Sl.nil0 _ _,Fw.none _,Fw.none _,HF2.out,Fw.none _,Fw.none _⟩,HR2,HE2⟩
  ·have HF:=Hm (HRF.out (by omega))
   have hk' :(kind==7)=false:=by simpa using h7
   have HBE:Hid (bodyE kind (ps.map RR.r) ver ⟨l,0⟩=rowsR kind (ps.map RR.r) ver ⟨l,0⟩):=Hm (if_neg h7)
   clear h7
   go_wp2_with (go_at_call 24;refine HF.out.mono ?_;rintro e w2 ⟨rfl,hp2,hr2,he2⟩;have HP2:=Hm hp2;have HR2:=Hm hr2;have HE2:=Hm he2;clear hp2 hr2 he2)
   go_meet
   case rel=>rw [HBE.out];exact ⟨HP2,HR2,HE2⟩
 case rest=>
 obtain ⟨HP2,HR2,HE2⟩:=hcut
 obtain ⟨BE,hBE⟩:∃B,B=bodyE kind (ps.map RR.r) ver ⟨l,0⟩:=⟨_,rfl⟩
 rw [←hBE] at HE HP HP2 HR2
 clear hBE HTF HRF HBQ HE1
 have HEX:=Hm (HEN.out g D BE.2 _ HR2.out)
 rw [←HE.out] at HEX
 obtain ⟨ba,bc,aa,ac,ra,rc,ha,hc,ga,gc,hBlk,hp1,hp2,hp3,hp4,hp5,f1,f2,f3,f4,f5⟩:=HP2.out
 have HBK:=Hm hBlk
 have HPH:Hid (PartHas BE.1 wc ba aa ra ha ga bc ac rc hc gc):=Hm ⟨hp1,hp2,hp3,hp4,hp5⟩
 have HFW:=Hm (And.intro f1 (And.intro f2 (And.intro f3 (And.intro f4 f5))))
 have HB8:=Hm (HBA.out.ext HE2.out)
 have HEW:=Hm (HEA.out.trans HE2.out)
 clear hBlk hp1 hp2 hp3 hp4 hp5 f1 f2 f3 f4 f5 HP2 HR2 HEN HE
 have gq:=HBK.out.cell
 have fq:=HBK.out.frozen
 have zq:=HBK.out.lt
 have g8:=HB8.out.cell
 have f8:=HB8.out.frozen
 have z8:=HB8.out.lt
 go_upto_region 12 with (go_at_call 25;refine HEX.out.mono ?_;rintro e w3 ⟨rfl,rfl⟩)
 by_cases hE0:EE=0
 ·subst hE0
  obtain rfl:=HP.out rfl
  clear HP HBAD
  obtain ⟨⟨pe,phb,pha⟩,S⟩:=BE
  obtain ⟨pk,pao,pav,po,pb,pa,prs,pf⟩:=pe
  simp only at HBK HPH gq
  go_wp2
  refine bodyPost_ret (res_part (Blk.ten HB8.out) rfl rfl) rfl ?_
  have hq:=HQW.out
  have hf:=HFW.out
  have hh:=HPH.out
  exact ⟨ba,aa,ra,ha,ga,bc,ac,rc,hc,gc,rfl,⟨hh.1.kp Kp.ten (fun _ b o e=>by have:=hf.1 b o e;omega),hh.2.1.kp Kp.ten (fun _ b o e=>by have:=hf.2.1 b o e;omega),hh.2.2.1.kp Kp.ten (fun _ b o e=>by have:=hf.2.2.1 b o e;omega),hh.2.2.2.1.kp Kp.ten (fun _ b o e=>by have:=hf.2.2.2.1 b o e;omega),hh.2.2.2.2.kp Kp.ten (fun _ b o e=>by have:=hf.2.2.2.2 b o e;omega)⟩,HEW.out.ten (by omega)⟩
 ·have hne:(EE !=0)=true:=by simpa using hE0
  have HPZ:=Hm (HBAD.out EE hE0 rfl)
  clear hE0 HP HBAD gq fq zq
  go_wp2
  refine bodyPost_ret (res_part (Blk.ten HB8.out) rfl rfl) rfl ?_
  rw [HPZ.out]
  exact ⟨none,none,none,none,none,0,0,0,0,0,rfl,PartHas.zero _,HEW.out.ten (by omega)⟩
end Go.Proofs.YtodbhliidbclcaaGreat
