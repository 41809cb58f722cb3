/-
An event in part filled with texts of pieces: the answer of the program (begun).
-/
import Derived.Test.YtodbhliidbclcaaGreatP27
set_option maxRecDepth 100000
set_option maxHeartbeats 16000000
namespace Go.Proofs.YtodbhliidbclcaaGreat
open Go.RowKit HG
theorem EL.owned.here {N:Nat} {W:World} {y:EL} (h:y.owned N W):y.at 5 K.pc W:=
 ⟨Sl.of_owns (base:=N) (e:=157) (by rw [List.length_map];exact h.b) (by intro xs hxs;simp at hxs;obtain ⟨_,_,rfl⟩:=hxs;rfl),Sl.of_owns (base:=N) (e:=157) (by rw [List.length_map];exact h.a) (by intro xs hxs;simp at hxs;obtain ⟨_,_,rfl⟩:=hxs;rfl),Sl.of_owns (base:=N) (e:=34) (by rw [List.length_map];exact h.r) (by intro xs hxs;simp at hxs;obtain ⟨_,_,rfl⟩:=hxs;rfl)⟩
def PFillQ (p:Pt) (ps:List ByteArray) (w:World) (e:Ending) (w' :World):Prop:=
 ∃y:EL,e= .returned (.tuple #[y.agg, .int .i64 (fillPE p ps)])∧y.e=fillPV p ps∧y.at 5 K.pc w'∧Ext w w'
theorem res_pfill {W:World} {b:Nat} {v0 v1 v2 v3 v4 v5 v6 v7 E:Value} {tm:Array Value} (h:Blk W b #[v0,v1,v2,v3,v4,v5,v6,v7] 39) (ht:tm.getD 4 undef= .pointer (some ⟨b,0,none⟩)) (hm:tm.getD 5 undef=E):
 (results Tryz.f12 tm).run Tryz.prog W= .ok (.tuple #[.agg #[v0,v1,v2,v3,v4,v5,v6,v7],E]) W:=by
 have c:=h.cell
 have c0:=c 0
 have c1:=c 1
 have c2:=c 2
 have c3:=c 3
 have c4:=c 4
 have c5:=c 5
 have c6:=c 6
 have c7:=c 7
 clear c h
 simp at c0 c1 c2 c3 c4 c5 c6 c7
 rw [Array.getD_eq_getD_getElem?] at ht hm
 simp [results,Tryz.results12,go_sem,ht,hm,c0,c1,c2,c3,c4,c5,c6,c7]
def EL.zero:EL:=⟨Ev.zero,none,0,none,0,none,0⟩
theorem EL.zero_at (W:World):EL.zero.at 5 K.pc W:=⟨Sl.nil0 _ _,Sl.nil0 _ _,Sl.nil0 _ _⟩
theorem fillPV_bad {p:Pt} {ps:List ByteArray} (h:fillPE p ps≠0):fillPV p ps=Ev.zero:=if_neg h
theorem fillPE_join {p:Pt} {ps:List ByteArray} (h:joinE ps (sizesP p)≠0):fillPE p ps=joinE ps (sizesP p):=if_pos h
theorem pfill_any (p:Pt) (ba aa ra ha ga:Option Addr) (bc ac rc hc gc:Nat) (ps:List ByteArray) (ta:Option Addr) (tc:Nat) (w:World) (h:PartHas p w ba aa ra ha ga bc ac rc hc gc) (hs:p.e.small) (hn:p.hb.length+p.ha.length≤1000)
 (hps:Sl w (.slice ta ps.length tc) 1 (ps.map strC)) (hcap:ps.length≤tc) (htc:tc≤maxLen) (hpl:ps.length≤1000000) (hpz:∀s∈ps,s.size≤9223372036854775807):
 Calls Tryz.prog 12 #[.agg #[.int .u8 p.e.kind, .int .u32 p.e.ao, .int .u32 p.e.av, .int .u8 p.e.old, .slice ba p.e.b.length bc, .slice aa p.e.a.length ac, .slice ra p.e.rs.length rc, .int .u8 p.e.fl, .slice ha p.hb.length hc, .slice ga p.ha.length gc], .slice ta ps.length tc] w (PFillQ p ps w):=by
 have HSZ:=Hm (fun W (h2:Ext w W)=>sizes_any p ba aa ra ha ga bc ac rc hc gc W (h.ext h2) hn)
 have HJN:=Hm (fun b c W (h2:Ext w W) (hs2:Sl W (.slice b (sizesP p).length c) 1 ((sizesP p).map icell))=>join_any ps (sizesP p) ta b tc c W (hps.ext h2) hcap htc hs2 (by unfold sizesP;rw [List.length_append,List.length_map,List.length_map];exact hn) hpl hpz)
 have HPE:=Hm (fillPE_join (p:=p) (ps:=ps))
 have HPB:=Hm (fillPV_bad (p:=p) (ps:=ps))
 have HH:=Hm h
 obtain ⟨⟨kind,ao,av,old,b,a,rs,fl⟩,hb,hg⟩:=p
 obtain ⟨L,hL⟩:∃L,L=sizesP (⟨⟨kind,ao,av,old,b,a,rs,fl⟩,hb,hg⟩:Pt):=⟨_,rfl⟩
 rw [←hL] at HSZ HJN HPE
 unfold JoinQ at HJN
 obtain ⟨JE,hJE⟩:∃E,E=joinE ps L:=⟨_,rfl⟩
 obtain ⟨JW,hJW⟩:∃E,E=joinW ps L:=⟨_,rfl⟩
 rw [←hJE] at HPE HJN
 rw [←hJW] at HJN
 simp only at HSZ HJN hs hn⊢
 have HLL:=Hm hL
 have HJE:=Hm hJE
 have HJW:=Hm hJW
 clear h hps hL hJE hJW
 go_enter Tryz.func12,Tryz.ntmps12
 go_upto_region 2 with (first
  |(go_at_call 36;refine (HSZ.out _ (((Ext.refl w).alloc (.cells #[.int .u8 kind, .int .u32 ao, .int .u32 av, .int .u8 old, .slice ba b.length bc, .slice aa a.length ac, .slice ra rs.length rc, .int .u8 fl, .slice ha hb.length hc, .slice ga hg.length gc] 42)).alloc (.cells #[.int .u8 0, .int .u32 0, .int .u32 0, .int .u8 0, .slice none 0 0, .slice none 0 0, .slice none 0 0, .int .u8 0] 39))).mono ?_;rintro e w1 ⟨a1,c1,rfl,hs1,hb1⟩;have HS1:=Hm hs1;have HX1:=Hm hb1;have HE1:=Hm ((((Ext.refl w).alloc (.cells #[.int .u8 kind, .int .u32 ao, .int .u32 av, .int .u8 old, .slice ba b.length bc, .slice aa a.length ac, .slice ra rs.length rc, .int .u8 fl, .slice ha hb.length hc, .slice ga hg.length gc] 42)).alloc (.cells #[.int .u8 0, .int .u32 0, .int .u32 0, .int .u8 0, .slice none 0 0, .slice none 0 0, .slice none 0 0, .int .u8 0] 39)).trans hb1);clear hs1 hb1)
  |(go_at_call 35;refine (HJN.out _ _ _ HE1.out HS1.out).mono ?_;rintro e w2 ⟨a2,c2,rfl,hs2,hc2,hb2⟩;have HS2:=Hm hs2;have HC2:=Hm hc2;have HX2:=Hm (HX1.out.trans hb2);have HE2:=Hm (HE1.out.trans hb2);clear hs2 hc2 hb2))
 have HB4:Hid (Blk w2 (w.heap.size+1) #[.int .u8 0, .int .u32 0, .int .u32 0, .int .u8 0, .slice none 0 0, .slice none 0 0, .slice none 0 0, .int .u8 0] 39):=Hm ((Blk.new' (w:=w.alloc (.cells #[.int .u8 kind, .int .u32 ao, .int .u32 av, .int .u8 old, .slice ba b.length bc, .slice aa a.length ac, .slice ra rs.length rc, .int .u8 fl, .slice ha hb.length hc, .slice ga hg.length gc] 42)) _ _ (by simp)).ext HX2.out)
 have HB2:Hid (Blk w2 w.heap.size #[.int .u8 kind, .int .u32 ao, .int .u32 av, .int .u8 old, .slice ba b.length bc, .slice aa a.length ac, .slice ra rs.length rc, .int .u8 fl, .slice ha hb.length hc, .slice ga hg.length gc] 42):=Hm (((Blk.new w _ _).alloc _).ext HX2.out)
 by_cases h0:JE=0
 case neg=>
  have hne:(JE !=0)=true:=by simpa using h0
  have HF:=Hm (HPE.out h0)
  have HV:=Hm (HPB.out (by rw [HF.out];exact h0))
  have g8:=HB4.out.cell
  have f8:=HB4.out.frozen
  have z8:=HB4.out.lt
  go_wp2
  refine bodyPost_ret (res_pfill (Blk.eight HB4.out) rfl rfl) rfl ?_
  unfold PFillQ
  rw [HF.out,HV.out]
  exact ⟨EL.zero,rfl,rfl,EL.zero_at _,Kp.ext HE2.out (fun x hx _=>by omega) Kp.eight⟩
 subst h0
 have HX:Hid ((⟨⟨kind,ao,av,old,b,a,rs,fl⟩,ba,bc,aa,ac,ra,rc⟩:EL).at 5 K.pc w):=Hm ⟨HH.out.1,HH.out.2.1,HH.out.2.2.1⟩
 have HCP:=Hm (fun W (h:Ext w W)=>ecopy_any ⟨⟨kind,ao,av,old,b,a,rs,fl⟩,ba,bc,aa,ac,ra,rc⟩ W (HX.out.ext h) hs)
 unfold EL.agg at HCP
 simp only at HCP
 have HSM:=Hm hs
 have g2:=HB2.out.cell
 have z2:=HB2.out.lt
 go_upto_region 5 with (go_at_call 37;refine (HCP.out _ HE2.out).mono ?_;rintro e w3 ⟨⟨ye,b3,d3,a3,f3,r3,k3⟩,rfl,hye,hown,hb3⟩;simp only at hye;subst hye;have HOW:=Hm hown;have HX3:=Hm hb3;clear hown hb3 g2 z2;(try simp only))
 have HB5:=Hm (Blk.new w3 #[.int .u8 kind, .int .u32 ao, .int .u32 av, .int .u8 old, .slice b3 b.length d3, .slice a3 a.length f3, .slice r3 rs.length k3, .int .u8 fl] 39)
 have HBP:=Hm (HB2.out.ext (HX3.out.alloc (.cells #[.int .u8 kind, .int .u32 ao, .int .u32 av, .int .u8 old, .slice b3 b.length d3, .slice a3 a.length f3, .slice r3 rs.length k3, .int .u8 fl] 39)))
 obtain ⟨w4,hw4⟩:∃W,W=w3.alloc (.cells #[.int .u8 kind, .int .u32 ao, .int .u32 av, .int .u8 old, .slice b3 b.length d3, .slice a3 a.length f3, .slice r3 rs.length k3, .int .u8 fl] 39):=⟨_,rfl⟩
 rw [←hw4] at HB5 HBP⊢
 have HW4:=Hm hw4
 have HJL:Hid (JW.length=hb.length+hg.length):=Hm (by
  rw [HJW.out]
  unfold joinW
  rw [←HJE.out,if_pos rfl,joinT_len,List.length_map,HLL.out]
  unfold sizesP
  rw [List.length_append,List.length_map,List.length_map])
 have HJZ:Hid (∀t∈JW,t.size≤9223372036854775807):=Hm (by
  have h0:=HJE.out.symm
  obtain ⟨h1,h2⟩:=joinE_zero h0
  intro t ht
  have h3:t.size∈L.map Int.toNat:=by
   rw [←join_sizes _ _ h2]
   have h4:JW=joinT ps (L.map Int.toNat):=by rw [HJW.out];unfold joinW;rw [if_pos h0]
   rw [h4] at ht
   exact List.mem_map_of_mem ht
  obtain ⟨n,hn,hnt⟩:=List.mem_map.1 h3
  have:=h1 n hn
  omega)
 have HTX:Hid (textsP (⟨⟨kind,ao,av,old,b,a,rs,fl⟩,hb,hg⟩:Pt) ps=JW):=Hm (by
  rw [HJW.out]
  unfold joinW textsP
  rw [←HJE.out,if_pos rfl,HLL.out])
 have HC5:Hid (hb.length≤c2∧hb.length≤JW.length∧JW.length≤c2∧c2≤maxLen):=Hm (by
  have h1:=HC2.out
  have h2:=HJL.out
  omega)
 have HE34:Hid (Ext w3 w4):=Hm (by rw [HW4.out];exact (Ext.refl w3).alloc _)
 have HE24:Hid (Ext w2 w4):=Hm (HX3.out.trans HE34.out)
 have HEW4:Hid (Ext w w4):=Hm (HE2.out.trans HE24.out)
 have HZ4:Hid (w4.heap.size=w3.heap.size+1∧w2.heap.size≤w3.heap.size∧w.heap.size+1<w2.heap.size):=Hm (by
  refine ⟨by rw [HW4.out];simp,HX3.out.size, ?_⟩
  have:=HB4.out.lt
  exact this)
 have hat3:=HOW.out.here
 have HAT:=Hm hat3
 have HLT3:=Hm hat3.lt
 clear hat3
 have HFB:Hid (∀W,Ext w4 W→Calls Tryz.prog 38 #[.slice b3 b.length d3, .slice ha hb.length hc, .slice a2 hb.length c2] W (FillPostF b hb (JW.take hb.length) W)):=Hm (fun W h=>by
  have hl:(JW.take hb.length).length=hb.length:=by rw [List.length_take];exact Nat.min_eq_left HC5.out.2.1
  have hs:=HS2.out.front (m:=hb.length) HC5.out.2.1
  rw [←List.map_take] at hs
  have:=fill_anyF b hb (JW.take hb.length) b3 ha a2 d3 hc c2 W (HAT.out.b.ext (HE34.out.trans h)) (HH.out.2.2.2.1.ext (HEW4.out.trans h)) (by rw [hl];exact hs.ext (HE24.out.trans h)) HSM.out.b (by omega) (by rw [hl];omega) (fun t ht=>HJZ.out t (List.mem_of_mem_take ht))
  rw [hl] at this
  exact this)
 have HFA:Hid (∀(q:Option Addr) (cq:Nat) W,Ext w W→Sl W (.slice q (JW.length - hb.length) cq) 1 ((JW.drop hb.length).map strC)→Sl W (.slice a3 a.length f3) 5 (a.map K.pc)→Calls Tryz.prog 38 #[.slice a3 a.length f3, .slice ga hg.length gc, .slice q (JW.length - hb.length) cq] W (FillPostF a hg (JW.drop hb.length) W)):=Hm (fun q cq W h hq ha=>by
  have hl:(JW.drop hb.length).length=JW.length - hb.length:=by rw [List.length_drop]
  have:=fill_anyF a hg (JW.drop hb.length) a3 ga q f3 gc cq W ha (HH.out.2.2.2.2.ext h) (by rw [hl];exact hq) HSM.out.a (by omega) (by rw [hl];have:=HJL.out;omega) (fun t ht=>HJZ.out t (List.mem_of_mem_drop ht))
  rw [hl] at this
  exact this)
 obtain ⟨E1,hE1⟩:∃E,E=fillE b hb (JW.take hb.length):=⟨_,rfl⟩
 obtain ⟨W1,hW1⟩:∃E,E=fillW b hb (JW.take hb.length):=⟨_,rfl⟩
 obtain ⟨E9,hE9⟩:∃E,E=fillE a hg (JW.drop hb.length):=⟨_,rfl⟩
 obtain ⟨W9,hW9⟩:∃E,E=fillW a hg (JW.drop hb.length):=⟨_,rfl⟩
 unfold FillPostF at HFB HFA
 rw [←hE1,←hW1] at HFB
 rw [←hE9,←hW9] at HFA
 have HPF:Hid (fillPE (⟨⟨kind,ao,av,old,b,a,rs,fl⟩,hb,hg⟩:Pt) ps=if E1≠0 then E1 else E9):=Hm (by
  unfold fillPE
  simp only
  rw [HTX.out,←hE1,←hE9,←HLL.out,←HJE.out]
  rfl)
 have HPV:Hid (E1=0→E9=0→fillPV (⟨⟨kind,ao,av,old,b,a,rs,fl⟩,hb,hg⟩:Pt) ps=⟨kind,ao,av,old,W1,W9,rs,fl⟩):=Hm (fun h1 h9=>by
  unfold fillPV
  rw [if_pos (by rw [HPF.out,if_neg (by simpa using h1)];exact h9)]
  simp only
  rw [HTX.out,hW1,hW9]
  unfold fillW
  rw [if_pos (by rw [←hE1];exact h1),if_pos (by rw [←hE9];exact h9)])
 clear hE1 hW1 hE9 hW9
 have hc1:(hb.length:Int)≤(c2:Int):=by have:=HC5.out;omega
 have hc2:(hb.length:Int)≤(JW.length:Int):=by have:=HC5.out;omega
 have hc3:(c2:Int)≤9223372036854775807:=by have:=HC5.out;unfold maxLen at this;omega
 have g5:=HB5.out.cell
 have z5:=HB5.out.lt
 have gP:=HBP.out.cell
 have zP:=HBP.out.lt
 clear hw4
 refine wp_region_heads 9 6 15 (fun w' =>Ext (w4) w'∧(∀b o,b<(w4).heap.size→w'.cell? ⟨b,o,none⟩=(w4).cell? ⟨b,o,none⟩)∧(∀b o,b<(w4).heap.size→w'.frozen? ⟨b,o,none⟩=(w4).frozen? ⟨b,o,none⟩)) (fun _=>True∧True∧True) (by kernel_rfl) (by decide) ?_
 have hA0:Hid ((fun w' =>Ext (w4) w'∧(∀b o,b<(w4).heap.size→w'.cell? ⟨b,o,none⟩=(w4).cell? ⟨b,o,none⟩)∧(∀b o,b<(w4).heap.size→w'.frozen? ⟨b,o,none⟩=(w4).frozen? ⟨b,o,none⟩)) w4.drew):=Hm (held_of (Ext.refl w4).drew)
 (refine HG.wpHb_takeD (i:=0) (d:=some 24) (v:= ?_) rfl rfl (by kernel_rfl) (by kernel_rfl) (by kernel_rfl) (fun _ _ _ h=>h) (Or.inl ⟨by rfl, ?_⟩) hA0.out ?_;rotate_left 1;(· (intro w' hS';(obtain ⟨hEs',hcs',hfs'⟩:=hS');go_simp;try with_reducible rfl)))
 try simp only [Act.put,List.setIfInBounds_toArray,List.set_cons_zero,List.set_cons_succ]
 (refine HG.wpHb_takeD (i:=1) (d:=some 25) (v:= ?_) rfl rfl (by kernel_rfl) (by kernel_rfl) (by kernel_rfl) (fun _ _ _ h=>h) (Or.inl ⟨by rfl, ?_⟩) hA0.out ?_;rotate_left 1;(· (intro w' hS';(obtain ⟨hEs',hcs',hfs'⟩:=hS');go_simp;try with_reducible rfl)))
 try simp only [Act.put,List.setIfInBounds_toArray,List.set_cons_zero,List.set_cons_succ]
 (refine HG.wpHb_takeD (i:=2) (d:=some 26) (v:= ?_) rfl rfl (by kernel_rfl) (by kernel_rfl) (by kernel_rfl) (fun _ _ _ h=>h) (Or.inl ⟨by rfl, ?_⟩) hA0.out ?_;rotate_left 1;(· (intro w' hS';(obtain ⟨hEs',hcs',hfs'⟩:=hS');go_simp;try with_reducible rfl)))
 try simp only [Act.put,List.setIfInBounds_toArray,List.set_cons_zero,List.set_cons_succ]
 (refine HG.wpHb_takeD (i:=3) (d:=some 27) (v:= ?_) rfl rfl (by kernel_rfl) (by kernel_rfl) (by kernel_rfl) (fun _ _ _ h=>h) (Or.inl ⟨by rfl, ?_⟩) hA0.out ?_;rotate_left 1;(· (intro w' hS';(obtain ⟨hEs',hcs',hfs'⟩:=hS');go_simp;try with_reducible rfl)))
 try simp only [Act.put,List.setIfInBounds_toArray,List.set_cons_zero,List.set_cons_succ]
 (refine HG.wpHb_takeD (i:=4) (d:=some 28) (v:= ?_) rfl rfl (by kernel_rfl) (by kernel_rfl) (by kernel_rfl) (fun _ _ _ h=>h) (Or.inl ⟨by rfl, ?_⟩) hA0.out ?_;rotate_left 1;(· (intro w' hS';(obtain ⟨hEs',hcs',hfs'⟩:=hS');go_simp;try with_reducible rfl)))
 try simp only [Act.put,List.setIfInBounds_toArray,List.set_cons_zero,List.set_cons_succ]
 (refine HG.wpHb_takeD (i:=5) (d:=some 29) (v:= ?_) rfl rfl (by kernel_rfl) (by kernel_rfl) (by kernel_rfl) (fun _ _ _ h=>h) (Or.inl ⟨by rfl, ?_⟩) hA0.out ?_;rotate_left 1;(· (intro w' hS';(obtain ⟨hEs',hcs',hfs'⟩:=hS');go_simp;try with_reducible rfl)))
 try simp only [Act.put,List.setIfInBounds_toArray,List.set_cons_zero,List.set_cons_succ]
 (refine HG.wpHb_takeD (i:=6) (d:=some 30) (v:= ?_) rfl rfl (by kernel_rfl) (by kernel_rfl) (by kernel_rfl) (fun _ _ _ h=>h) (Or.inl ⟨by rfl, ?_⟩) hA0.out ?_;rotate_left 1;(· (intro w' hS';(obtain ⟨hEs',hcs',hfs'⟩:=hS');go_simp;try with_reducible rfl)))
 try simp only [Act.put,List.setIfInBounds_toArray,List.set_cons_zero,List.set_cons_succ]
 (refine HG.wpHb_takeD (i:=7) (d:=some 31) (v:= ?_) rfl rfl (by kernel_rfl) (by kernel_rfl) (by kernel_rfl) (fun _ _ _ h=>h) (Or.inl ⟨by rfl, ?_⟩) hA0.out ?_;rotate_left 1;(· (intro w' hS';(obtain ⟨hEs',hcs',hfs'⟩:=hS');go_simp;try with_reducible rfl)))
 try simp only [Act.put,List.setIfInBounds_toArray,List.set_cons_zero,List.set_cons_succ]
 (refine HG.wpHb_takeD (i:=8) (d:=some 32) (v:= ?_) rfl rfl (by kernel_rfl) (by kernel_rfl) (by kernel_rfl) (fun _ _ _ h=>h) (Or.inl ⟨by rfl, ?_⟩) hA0.out ?_;rotate_left 1;(· (intro w' hS';(obtain ⟨hEs',hcs',hfs'⟩:=hS');go_simp;try with_reducible rfl)))
 try simp only [Act.put,List.setIfInBounds_toArray,List.set_cons_zero,List.set_cons_succ]
 refine wpHb_done (by kernel_rfl) ?_
 clear hA0 g5 z5 gP zP
 have hT:True∧True∧True:=⟨trivial,trivial,trivial⟩
 refine wpHd_one (i:=9) rfl rfl (by kernel_rfl) (fun KK hK=> ?_)
 go_simp
 refine (HFB.out _ (Ext.refl w4).drew).mono ?_
 rintro e w5 ⟨a5,c5,rfl,hs5,hb5,hf5⟩
 refine hK.out _ _ hT (fun hA=> ?_)
 clear hK KK hA
 have HE45:Hid (Ext w4 w5):=Hm ((Ext.refl w4).drew.trans hb5)
 have HS5:=Hm hs5
 have HF5:Hid (W1≠ []→∀b o,a5=some ⟨b,o,none⟩→w4.heap.size≤b):=Hm hf5
 clear hs5 hb5 hf5
 refine HG.on 10 23 hT ?_
 try simp only [Act.put,List.setIfInBounds_toArray,List.set_cons_zero,List.set_cons_succ]
 refine HG.on 11 34 hT ?_
 try simp only [Act.put,List.setIfInBounds_toArray,List.set_cons_zero,List.set_cons_succ]
 refine HG.on 12 35 hT ?_
 try simp only [Act.put,List.setIfInBounds_toArray,List.set_cons_zero,List.set_cons_succ]
 refine HG.on 13 36 hT ?_
 try simp only [Act.put,List.setIfInBounds_toArray,List.set_cons_zero,List.set_cons_succ]
 have g5:=(HB5.out.ext HE45.out).cell
 have f5:=(HB5.out.ext HE45.out).frozen
 have z5:=(HB5.out.ext HE45.out).lt
 refine wpHd_one (i:=14) rfl rfl (by kernel_rfl) (fun KK hK=> ?_)
 go_simp
 refine hK.out _ _ hT (fun hA=> ?_)
 clear hK KK hA g5 f5 z5
 refine wpHd_tail (by kernel_rfl) ?_
 simp only [List.drop_succ_cons,List.drop_zero]
 have HK6:Hid (Kp (fun x=>x=w3.heap.size) w5 (w5.setCell ⟨w3.heap.size,4,none⟩ (.slice a5 W1.length c5))):=Hm (Kp.set (S:=fun x=>x=w3.heap.size) _ _ rfl)
 have HB6:Hid (Blk (w5.setCell ⟨w3.heap.size,4,none⟩ (.slice a5 W1.length c5)) w3.heap.size #[.int .u8 kind, .int .u32 ao, .int .u32 av, .int .u8 old, .slice a5 W1.length c5, .slice a3 a.length f3, .slice r3 rs.length k3, .int .u8 fl] 39):=Hm (by
  have:=(HB5.out.ext HE45.out).set 4 (.slice a5 W1.length c5)
  simpa only [List.setIfInBounds_toArray,List.set_cons_zero,List.set_cons_succ] using this)
 obtain ⟨w6,hw6⟩:∃W,W=w5.setCell ⟨w3.heap.size,4,none⟩ (.slice a5 W1.length c5):=⟨_,rfl⟩
 rw [←hw6] at HK6 HB6⊢
 have HP6:Hid (Blk w6 w.heap.size #[.int .u8 kind, .int .u32 ao, .int .u32 av, .int .u8 old, .slice ba b.length bc, .slice aa a.length ac, .slice ra rs.length rc, .int .u8 fl, .slice ha hb.length hc, .slice ga hg.length gc] 42):=Hm ((HBP.out.ext HE45.out).kp HK6.out (by have:=HZ4.out;omega))
 have HR6:Hid (Blk w6 (w.heap.size+1) #[.int .u8 0, .int .u32 0, .int .u32 0, .int .u8 0, .slice none 0 0, .slice none 0 0, .slice none 0 0, .int .u8 0] 39):=Hm ((HB4.out.ext (HE24.out.trans HE45.out)).kp HK6.out (by have:=HZ4.out;omega))
 have HE6:Hid (Ext w w6):=Hm (Kp.ext (HEW4.out.trans HE45.out) (fun x hx _=>by have:=HZ4.out;omega) HK6.out)
 have HZ6:Hid (w4.heap.size≤w6.heap.size):=Hm (Nat.le_trans HE45.out.size HK6.out.size)
 clear hw6 HB5 HBP HFB
 by_cases h1:E1=0
 case neg=>
  have hne:(E1 !=0)=true:=by simpa using h1
  have HF:Hid (fillPE (⟨⟨kind,ao,av,old,b,a,rs,fl⟩,hb,hg⟩:Pt) ps=E1):=Hm (by rw [HPF.out,if_pos h1])
  have HV:=Hm (HPB.out (by rw [HF.out];exact h1))
  have g8:=HR6.out.cell
  have f8:=HR6.out.frozen
  have z8:=HR6.out.lt
  go_wp2
  refine bodyPost_ret (res_pfill (Blk.eight HR6.out) rfl rfl) rfl ?_
  unfold PFillQ
  rw [HF.out,HV.out]
  exact ⟨EL.zero,rfl,rfl,EL.zero_at _,Kp.ext HE6.out (fun x hx _=>by omega) Kp.eight⟩
 subst h1
 have HSA:=Hm (HS2.out.after (m:=hb.length) HC5.out.2.1 HC5.out.2.2.1)
 rw [←List.map_drop] at HSA
 have HS6:Hid (∀ {q:Option Addr} {n c:Nat} {xs:List (List Value)},Sl w2 (.slice q n c) 1 xs→Sl w6 (.slice q n c) 1 xs):=Hm (fun h=>(h.ext (HE24.out.trans HE45.out)).kp HK6.out (fun h0 b o e=>by
  subst e
  have:=Sl.lt h h0
  have:=HZ4.out
  omega))
 have HA6:Hid (Sl w6 (.slice a3 a.length f3) 5 (a.map K.pc)):=Hm ((HAT.out.a.ext (HE34.out.trans HE45.out)).kp HK6.out (fun h0 b o e=>by
  have:=HLT3.out.a (map_ne h0) b o e
  (try simp only at this)
  omega))
 go_wp2
 obtain ⟨HN,hHN⟩:∃n,n=hb.length:=⟨_,rfl⟩
 rw [←hHN] at HFA HP6 HSA⊢
 have HHN:=Hm hHN
 have hc4:(HN:Int)≤(c2:Int):=by have:=HC5.out;omega
 have hc5:(HN:Int)≤(JW.length:Int):=by have:=HC5.out;omega
 have HC6:Hid (JW.length≤c2∧HN≤JW.length):=Hm (by have:=HC5.out;omega)
 clear hc1 hc2 hHN
 have hcz:c2=HN∨(c2≠HN∧a2=none)∨(c2≠HN∧∃ad,a2=some ad):=by
  by_cases h:c2=HN
  ·exact .inl h
  ·cases a2 with
   |none=>exact .inr (.inl ⟨h,rfl⟩)
   |some ad=>exact .inr (.inr ⟨h,ad,rfl⟩)
 rcases hcz with rfl|⟨hcc,rfl⟩|⟨hcc,ad,rfl⟩
 all_goals
  have hsa:=HSA.out
  clear HSA
  first
  |(rw [if_pos rfl,Nat.sub_self] at hsa;have HQQ:=Hm hsa)
  |(rw [if_neg hcc,Option.map_none] at hsa;have HQQ:=Hm hsa)
  |(rw [if_neg hcc,Option.map_some] at hsa;have HQQ:=Hm hsa)
  clear hsa
  have g6:=HB6.out.cell
  have z6:=HB6.out.lt
  have gP:=HP6.out.cell
  have zP:=HP6.out.lt
  refine wp_region_heads 9 6 15 (fun w' =>Ext (w6) w'∧(∀b o,b<(w6).heap.size→w'.cell? ⟨b,o,none⟩=(w6).cell? ⟨b,o,none⟩)∧(∀b o,b<(w6).heap.size→w'.frozen? ⟨b,o,none⟩=(w6).frozen? ⟨b,o,none⟩)) (fun _=>True∧True∧True) (by kernel_rfl) (by decide) ?_
  have hA0:Hid ((fun w' =>Ext (w6) w'∧(∀b o,b<(w6).heap.size→w'.cell? ⟨b,o,none⟩=(w6).cell? ⟨b,o,none⟩)∧(∀b o,b<(w6).heap.size→w'.frozen? ⟨b,o,none⟩=(w6).frozen? ⟨b,o,none⟩)) w6.drew):=Hm (held_of (Ext.refl w6).drew)
  (refine HG.wpHb_takeD (i:=0) (d:=some 42) (v:= ?_) rfl rfl (by kernel_rfl) (by kernel_rfl) (by kernel_rfl) (fun _ _ _ h=>h) (Or.inl ⟨by rfl, ?_⟩) hA0.out ?_;rotate_left 1;(· (intro w' hS';(obtain ⟨hEs',hcs',hfs'⟩:=hS');go_simp;try with_reducible rfl)))
  try simp only [Act.put,List.setIfInBounds_toArray,List.set_cons_zero,List.set_cons_succ]
  (refine HG.wpHb_takeD (i:=1) (d:=some 43) (v:= ?_) rfl rfl (by kernel_rfl) (by kernel_rfl) (by kernel_rfl) (fun _ _ _ h=>h) (Or.inl ⟨by rfl, ?_⟩) hA0.out ?_;rotate_left 1;(· (intro w' hS';(obtain ⟨hEs',hcs',hfs'⟩:=hS');go_simp;try with_reducible rfl)))
  try simp only [Act.put,List.setIfInBounds_toArray,List.set_cons_zero,List.set_cons_succ]
  (refine HG.wpHb_takeD (i:=2) (d:=some 44) (v:= ?_) rfl rfl (by kernel_rfl) (by kernel_rfl) (by kernel_rfl) (fun _ _ _ h=>h) (Or.inl ⟨by rfl, ?_⟩) hA0.out ?_;rotate_left 1;(· (intro w' hS';(obtain ⟨hEs',hcs',hfs'⟩:=hS');go_simp;try with_reducible rfl)))
  try simp only [Act.put,List.setIfInBounds_toArray,List.set_cons_zero,List.set_cons_succ]
  (refine HG.wpHb_takeD (i:=3) (d:=some 45) (v:= ?_) rfl rfl (by kernel_rfl) (by kernel_rfl) (by kernel_rfl) (fun _ _ _ h=>h) (Or.inl ⟨by rfl, ?_⟩) hA0.out ?_;rotate_left 1;(· (intro w' hS';(obtain ⟨hEs',hcs',hfs'⟩:=hS');go_simp;try with_reducible rfl)))
  try simp only [Act.put,List.setIfInBounds_toArray,List.set_cons_zero,List.set_cons_succ]
  (refine HG.wpHb_takeD (i:=4) (d:=some 46) (v:= ?_) rfl rfl (by kernel_rfl) (by kernel_rfl) (by kernel_rfl) (fun _ _ _ h=>h) (Or.inl ⟨by rfl, ?_⟩) hA0.out ?_;rotate_left 1;(· (intro w' hS';(obtain ⟨hEs',hcs',hfs'⟩:=hS');go_simp;try with_reducible rfl)))
  try simp only [Act.put,List.setIfInBounds_toArray,List.set_cons_zero,List.set_cons_succ]
  (refine HG.wpHb_takeD (i:=5) (d:=some 47) (v:= ?_) rfl rfl (by kernel_rfl) (by kernel_rfl) (by kernel_rfl) (fun _ _ _ h=>h) (Or.inl ⟨by rfl, ?_⟩) hA0.out ?_;rotate_left 1;(· (intro w' hS';(obtain ⟨hEs',hcs',hfs'⟩:=hS');go_simp;try with_reducible rfl)))
  try simp only [Act.put,List.setIfInBounds_toArray,List.set_cons_zero,List.set_cons_succ]
  (refine HG.wpHb_takeD (i:=6) (d:=some 48) (v:= ?_) rfl rfl (by kernel_rfl) (by kernel_rfl) (by kernel_rfl) (fun _ _ _ h=>h) (Or.inl ⟨by rfl, ?_⟩) hA0.out ?_;rotate_left 1;(· (intro w' hS';(obtain ⟨hEs',hcs',hfs'⟩:=hS');go_simp;try with_reducible rfl)))
  try simp only [Act.put,List.setIfInBounds_toArray,List.set_cons_zero,List.set_cons_succ]
  (refine HG.wpHb_takeD (i:=7) (d:=some 49) (v:= ?_) rfl rfl (by kernel_rfl) (by kernel_rfl) (by kernel_rfl) (fun _ _ _ h=>h) (Or.inl ⟨by rfl, ?_⟩) hA0.out ?_;rotate_left 1;(· (intro w' hS';(obtain ⟨hEs',hcs',hfs'⟩:=hS');go_simp;try with_reducible rfl)))
  try simp only [Act.put,List.setIfInBounds_toArray,List.set_cons_zero,List.set_cons_succ]
  (refine HG.wpHb_takeD (i:=8) (d:=some 50) (v:= ?_) rfl rfl (by kernel_rfl) (by kernel_rfl) (by kernel_rfl) (fun _ _ _ h=>h) (Or.inl ⟨by rfl, ?_⟩) hA0.out ?_;rotate_left 1;(· (intro w' hS';(obtain ⟨hEs',hcs',hfs'⟩:=hS');go_simp;try with_reducible rfl)))
  try simp only [Act.put,List.setIfInBounds_toArray,List.set_cons_zero,List.set_cons_succ]
  refine wpHb_done (by kernel_rfl) ?_
  clear hA0 g6 z6 gP zP
  refine wpHd_one (i:=9) rfl rfl (by kernel_rfl) (fun KK hK=> ?_)
  go_simp
  have hqq:=(HS6.out HQQ.out).ext (Ext.refl w6).drew
  have HQ6:=Hm hqq
  clear hqq HQQ
  refine (HFA.out _ _ w6.drew (HE6.out.trans (Ext.refl w6).drew) ?_ (HA6.out.ext (Ext.refl w6).drew)).mono ?_
  ·exact HQ6.out
  rintro e w9 ⟨a9,c9,rfl,hs9,hb9,hf9⟩
  refine hK.out _ _ hT (fun hA=> ?_)
  clear hK KK hA
  have HE69:Hid (Ext w6 w9):=Hm ((Ext.refl w6).drew.trans hb9)
  have HS9:=Hm hs9
  have HF9:Hid (W9≠ []→∀b o,a9=some ⟨b,o,none⟩→w6.heap.size≤b):=Hm hf9
  clear hs9 hb9 hf9
  refine HG.on 10 41 hT ?_
  try simp only [Act.put,List.setIfInBounds_toArray,List.set_cons_zero,List.set_cons_succ]
  refine HG.on 11 52 hT ?_
  try simp only [Act.put,List.setIfInBounds_toArray,List.set_cons_zero,List.set_cons_succ]
  refine HG.on 12 53 hT ?_
  try simp only [Act.put,List.setIfInBounds_toArray,List.set_cons_zero,List.set_cons_succ]
  refine HG.on 13 54 hT ?_
  try simp only [Act.put,List.setIfInBounds_toArray,List.set_cons_zero,List.set_cons_succ]
  have g9:=(HB6.out.ext HE69.out).cell
  have f9:=(HB6.out.ext HE69.out).frozen
  have z9:=(HB6.out.ext HE69.out).lt
  refine wpHd_one (i:=14) rfl rfl (by kernel_rfl) (fun KK hK=> ?_)
  go_simp
  refine hK.out _ _ hT (fun hA=> ?_)
  clear hK KK hA g9 f9 z9
  refine wpHd_tail (by kernel_rfl) ?_
  simp only [List.drop_succ_cons,List.drop_zero]
  have HK10:Hid (Kp (fun x=>x=w3.heap.size) w9 (w9.setCell ⟨w3.heap.size,5,none⟩ (.slice a9 W9.length c9))):=Hm (Kp.set (S:=fun x=>x=w3.heap.size) _ _ rfl)
  have HB10:Hid (Blk (w9.setCell ⟨w3.heap.size,5,none⟩ (.slice a9 W9.length c9)) w3.heap.size #[.int .u8 kind, .int .u32 ao, .int .u32 av, .int .u8 old, .slice a5 W1.length c5, .slice a9 W9.length c9, .slice r3 rs.length k3, .int .u8 fl] 39):=Hm (by
   have:=(HB6.out.ext HE69.out).set 5 (.slice a9 W9.length c9)
   simpa only [List.setIfInBounds_toArray,List.set_cons_zero,List.set_cons_succ] using this)
  obtain ⟨wz,hwz⟩:∃W,W=w9.setCell ⟨w3.heap.size,5,none⟩ (.slice a9 W9.length c9):=⟨_,rfl⟩
  rw [←hwz] at HK10 HB10⊢
  have HRZ:Hid (Blk wz (w.heap.size+1) #[.int .u8 0, .int .u32 0, .int .u32 0, .int .u8 0, .slice none 0 0, .slice none 0 0, .slice none 0 0, .int .u8 0] 39):=Hm ((HR6.out.ext HE69.out).kp HK10.out (by have:=HZ4.out;omega))
  have HEZ:Hid (Ext w wz):=Hm (Kp.ext (HE6.out.trans HE69.out) (fun x hx _=>by have:=HZ4.out;omega) HK10.out)
  clear hwz HB6 HP6 HFA
  have g8:=HRZ.out.cell
  have f8:=HRZ.out.frozen
  have z8:=HRZ.out.lt
  by_cases h9:E9=0
  case neg=>
   have hne:(E9 !=0)=true:=by simpa using h9
   have HF:Hid (fillPE (⟨⟨kind,ao,av,old,b,a,rs,fl⟩,hb,hg⟩:Pt) ps=E9):=Hm (by rw [HPF.out];exact if_neg (fun h=>h rfl))
   have HV:=Hm (HPB.out (by rw [HF.out];exact h9))
   go_wp2
   refine bodyPost_ret (res_pfill (Blk.eight HRZ.out) rfl rfl) rfl ?_
   unfold PFillQ
   rw [HF.out,HV.out]
   exact ⟨EL.zero,rfl,rfl,EL.zero_at _,Kp.ext HEZ.out (fun x hx _=>by omega) Kp.eight⟩
  subst h9
  have HF:Hid (fillPE (⟨⟨kind,ao,av,old,b,a,rs,fl⟩,hb,hg⟩:Pt) ps=0):=Hm (by rw [HPF.out];exact if_neg (fun h=>h rfl))
  have HV:=Hm (HPV.out (by first|exact rfl|exact trivial) (by first|exact rfl|exact trivial))
  have g9:=HB10.out.cell
  have z9:=HB10.out.lt
  go_wp2
  refine bodyPost_ret (res_pfill (Blk.eight HRZ.out) rfl rfl) rfl ?_
  unfold PFillQ
  rw [HF.out,HV.out]
  refine ⟨⟨⟨kind,ao,av,old,W1,W9,rs,fl⟩,a5,c5,a9,c9,r3,k3⟩,rfl,rfl,⟨?_, ?_, ?_⟩,Kp.ext HEZ.out (fun x hx _=>by omega) Kp.eight⟩
  ·refine ((((HS5.out.kp HK6.out (fun h0 b o e=> ?_)).ext HE69.out).kp HK10.out (fun h0 b o e=> ?_)).kp Kp.eight (fun h0 b o e=> ?_))
   all_goals
    have h1:=HF5.out (map_ne h0) b o e
    have h2:=HZ4.out
    omega
  ·refine ((HS9.out.kp HK10.out (fun h0 b o e=> ?_)).kp Kp.eight (fun h0 b o e=> ?_))
   all_goals
    have h1:=HF9.out (map_ne h0) b o e
    have h2:=HZ4.out
    have h3:=HZ6.out
    omega
  ·refine (((((HAT.out.r.ext (HE34.out.trans HE45.out)).kp HK6.out (fun h0 b o e=> ?_)).ext HE69.out).kp HK10.out (fun h0 b o e=> ?_)).kp Kp.eight (fun h0 b o e=> ?_))
   all_goals
    have h1:=HLT3.out.r (map_ne h0) b o e
    have h4:=(HOW.out.r.lt b (by (try simp only at e);rw [e];rfl)).1
    have h2:=HZ4.out
    (try simp only at h1)
    omega
end Go.Proofs.YtodbhliidbclcaaGreat
namespace Go.Proofs.YtodbhliidbclcaaGreat
open Go.RowKit HG
def RPFillQ (p:Pt) (ps:List ByteArray) (w:World) (e:Ending) (w' :World):Prop:=
 ∃y:EL,e= .returned (.tuple #[y.agg, .int .i64 (fillPE p ps)])∧y.e=fillPV p ps∧y.at 6 K.rc w'∧Ext w w'
theorem res_rpfill {W:World} {b:Nat} {v0 v1 v2 v3 v4 v5 v6 v7 E:Value} {tm:Array Value} (h:Blk W b #[v0,v1,v2,v3,v4,v5,v6,v7] 50) (ht:tm.getD 4 undef= .pointer (some ⟨b,0,none⟩)) (hm:tm.getD 5 undef=E):
 (results Tryz.f13 tm).run Tryz.prog W= .ok (.tuple #[.agg #[v0,v1,v2,v3,v4,v5,v6,v7],E]) W:=by
 have c:=h.cell
 have c0:=c 0
 have c1:=c 1
 have c2:=c 2
 have c3:=c 3
 have c4:=c 4
 have c5:=c 5
 have c6:=c 6
 have c7:=c 7
 clear c h
 simp at c0 c1 c2 c3 c4 c5 c6 c7
 rw [Array.getD_eq_getD_getElem?] at ht hm
 simp [results,Tryz.results13,go_sem,ht,hm,c0,c1,c2,c3,c4,c5,c6,c7]
theorem EL.zero_atR (W:World):EL.zero.at 6 K.rc W:=⟨Sl.nil0 _ _,Sl.nil0 _ _,Sl.nil0 _ _⟩
theorem rpfill_any (p:Pt) (ba aa ra ha ga:Option Addr) (bc ac rc hc gc:Nat) (ps:List ByteArray) (ta:Option Addr) (tc:Nat) (w:World) (h:PartHasR p w ba aa ra ha ga bc ac rc hc gc) (hnil:(ba=none→bc=0)∧(aa=none→ac=0)) (hs:p.e.small) (hn:p.hb.length+p.ha.length≤1000)
 (hps:Sl w (.slice ta ps.length tc) 1 (ps.map strC)) (hpl:ps.length≤1000000) (hpz:∀s∈ps,s.size≤1000000):
 Calls Tryz.prog 13 #[.agg #[.int .u8 p.e.kind, .int .u32 p.e.ao, .int .u32 p.e.av, .int .u8 p.e.old, .slice ba p.e.b.length bc, .slice aa p.e.a.length ac, .slice ra p.e.rs.length rc, .int .u8 p.e.fl, .slice ha p.hb.length hc, .slice ga p.ha.length gc], .slice ta ps.length tc] w (RPFillQ p ps w):=by
 have HSZ:=Hm (fun W (h2:Ext w W)=>rsizes_any p ba aa ra ha ga bc ac rc hc gc W (h.ext h2) hn)
 have HJN:=Hm (fun b c W (h2:Ext w W) (hs2:Sl W (.slice b (sizesP p).length c) 1 ((sizesP p).map icell))=>rjoin_any ps (sizesP p) ta b tc c W (hps.ext h2) hs2 (by unfold sizesP;rw [List.length_append,List.length_map,List.length_map];exact hn) hpl hpz)
 have HPE:=Hm (fillPE_join (p:=p) (ps:=ps))
 have HPB:=Hm (fillPV_bad (p:=p) (ps:=ps))
 have HH:=Hm h
 have HNL:=Hm hnil
 obtain ⟨⟨kind,ao,av,old,b,a,rs,fl⟩,hb,hg⟩:=p
 obtain ⟨L,hL⟩:∃L,L=sizesP (⟨⟨kind,ao,av,old,b,a,rs,fl⟩,hb,hg⟩:Pt):=⟨_,rfl⟩
 rw [←hL] at HSZ HJN HPE
 unfold JoinQ at HJN
 obtain ⟨JE,hJE⟩:∃E,E=joinE ps L:=⟨_,rfl⟩
 obtain ⟨JW,hJW⟩:∃E,E=joinW ps L:=⟨_,rfl⟩
 rw [←hJE] at HPE HJN
 rw [←hJW] at HJN
 simp only at HSZ HJN hs hn⊢
 have HLL:=Hm hL
 have HJE:=Hm hJE
 have HJW:=Hm hJW
 clear h hps hL hJE hJW hnil
 go_enter Tryz.func13,Tryz.ntmps13
 go_upto_region 2 with (first
  |(go_at_call 16;refine (HSZ.out _ (((Ext.refl w).alloc (.cells #[.int .u8 kind, .int .u32 ao, .int .u32 av, .int .u8 old, .slice ba b.length bc, .slice aa a.length ac, .slice ra rs.length rc, .int .u8 fl, .slice ha hb.length hc, .slice ga hg.length gc] 53)).alloc (.cells #[.int .u8 0, .int .u32 0, .int .u32 0, .int .u8 0, .slice none 0 0, .slice none 0 0, .slice none 0 0, .int .u8 0] 50))).mono ?_;rintro e w1 ⟨a1,c1,rfl,hs1,hb1⟩;have HS1:=Hm hs1;have HX1:=Hm hb1;have HE1:=Hm ((((Ext.refl w).alloc (.cells #[.int .u8 kind, .int .u32 ao, .int .u32 av, .int .u8 old, .slice ba b.length bc, .slice aa a.length ac, .slice ra rs.length rc, .int .u8 fl, .slice ha hb.length hc, .slice ga hg.length gc] 53)).alloc (.cells #[.int .u8 0, .int .u32 0, .int .u32 0, .int .u8 0, .slice none 0 0, .slice none 0 0, .slice none 0 0, .int .u8 0] 50)).trans hb1);clear hs1 hb1)
  |(go_at_call 39;refine (HJN.out _ _ _ HE1.out HS1.out).mono ?_;rintro e w2 ⟨a2,c2,rfl,hs2,hc2,hb2⟩;have HS2:=Hm hs2;have HC2:=Hm hc2;have HX2:=Hm (HX1.out.trans hb2);have HE2:=Hm (HE1.out.trans hb2);clear hs2 hc2 hb2))
 have HB4:Hid (Blk w2 (w.heap.size+1) #[.int .u8 0, .int .u32 0, .int .u32 0, .int .u8 0, .slice none 0 0, .slice none 0 0, .slice none 0 0, .int .u8 0] 50):=Hm ((Blk.new' (w:=w.alloc (.cells #[.int .u8 kind, .int .u32 ao, .int .u32 av, .int .u8 old, .slice ba b.length bc, .slice aa a.length ac, .slice ra rs.length rc, .int .u8 fl, .slice ha hb.length hc, .slice ga hg.length gc] 53)) _ _ (by simp)).ext HX2.out)
 have HB2:Hid (Blk w2 w.heap.size #[.int .u8 kind, .int .u32 ao, .int .u32 av, .int .u8 old, .slice ba b.length bc, .slice aa a.length ac, .slice ra rs.length rc, .int .u8 fl, .slice ha hb.length hc, .slice ga hg.length gc] 53):=Hm (((Blk.new w _ _).alloc _).ext HX2.out)
 by_cases h0:JE=0
 case neg=>
  have hne:(JE !=0)=true:=by simpa using h0
  have HF:=Hm (HPE.out h0)
  have HV:=Hm (HPB.out (by rw [HF.out];exact h0))
  have g8:=HB4.out.cell
  have f8:=HB4.out.frozen
  have z8:=HB4.out.lt
  go_wp2
  refine bodyPost_ret (res_rpfill (Blk.eight HB4.out) rfl rfl) rfl ?_
  unfold RPFillQ
  rw [HF.out,HV.out]
  exact ⟨EL.zero,rfl,rfl,EL.zero_atR _,Kp.ext HE2.out (fun x hx _=>by omega) Kp.eight⟩
 subst h0
 have HSM:=Hm hs
 have g2:=HB2.out.cell
 have z2:=HB2.out.lt
 go_wp2
 clear g2 z2
 have HB5:=Hm (Blk.new w2 #[.int .u8 kind, .int .u32 ao, .int .u32 av, .int .u8 old, .slice ba b.length bc, .slice aa a.length ac, .slice ra rs.length rc, .int .u8 fl] 50)
 have HBP:=Hm (HB2.out.alloc (.cells #[.int .u8 kind, .int .u32 ao, .int .u32 av, .int .u8 old, .slice ba b.length bc, .slice aa a.length ac, .slice ra rs.length rc, .int .u8 fl] 50))
 obtain ⟨w4,hw4⟩:∃W,W=w2.alloc (.cells #[.int .u8 kind, .int .u32 ao, .int .u32 av, .int .u8 old, .slice ba b.length bc, .slice aa a.length ac, .slice ra rs.length rc, .int .u8 fl] 50):=⟨_,rfl⟩
 rw [←hw4] at HB5 HBP⊢
 have HW4:=Hm hw4
 have HJL:Hid (JW.length=hb.length+hg.length):=Hm (by
  rw [HJW.out]
  unfold joinW
  rw [←HJE.out,if_pos rfl,joinT_len,List.length_map,HLL.out]
  unfold sizesP
  rw [List.length_append,List.length_map,List.length_map])
 have HJZ:Hid (∀t∈JW,t.size≤9223372036854775807):=Hm (by
  have h0:=HJE.out.symm
  obtain ⟨h1,h2⟩:=joinE_zero h0
  intro t ht
  have h3:t.size∈L.map Int.toNat:=by
   rw [←join_sizes _ _ h2]
   have h4:JW=joinT ps (L.map Int.toNat):=by rw [HJW.out];unfold joinW;rw [if_pos h0]
   rw [h4] at ht
   exact List.mem_map_of_mem ht
  obtain ⟨n,hn,hnt⟩:=List.mem_map.1 h3
  have:=h1 n hn
  omega)
 have HTX:Hid (textsP (⟨⟨kind,ao,av,old,b,a,rs,fl⟩,hb,hg⟩:Pt) ps=JW):=Hm (by
  rw [HJW.out]
  unfold joinW textsP
  rw [←HJE.out,if_pos rfl,HLL.out])
 have HC5:Hid (hb.length≤c2∧hb.length≤JW.length∧JW.length≤c2∧c2≤maxLen):=Hm (by
  have h1:=HC2.out
  have h2:=HJL.out
  omega)
 have HE24:Hid (Ext w2 w4):=Hm (by rw [HW4.out];exact (Ext.refl w2).alloc _)
 have HEW4:Hid (Ext w w4):=Hm (HE2.out.trans HE24.out)
 have HZ4:Hid (w4.heap.size=w2.heap.size+1∧w.heap.size+1<w2.heap.size):=Hm (by
  refine ⟨by rw [HW4.out];simp, ?_⟩
  have:=HB4.out.lt
  exact this)
 have HFB:Hid (∀W,Ext w4 W→Calls Tryz.prog 40 #[.slice ba b.length bc, .slice ha hb.length hc, .slice a2 hb.length c2] W (RFillPostF b hb (JW.take hb.length) W)):=Hm (fun W h=>by
  have hl:(JW.take hb.length).length=hb.length:=by rw [List.length_take];exact Nat.min_eq_left HC5.out.2.1
  have hs:=HS2.out.front (m:=hb.length) HC5.out.2.1
  rw [←List.map_take] at hs
  have:=rfill_anyF b hb (JW.take hb.length) ba ha a2 bc hc c2 W (HH.out.1.ext (HEW4.out.trans h)) HNL.out.1 (HH.out.2.2.2.1.ext (HEW4.out.trans h)) (by rw [hl];exact hs.ext (HE24.out.trans h)) HSM.out.b (by omega) (by rw [hl];omega) (fun t ht=>HJZ.out t (List.mem_of_mem_take ht))
  rw [hl] at this
  exact this)
 have HFA:Hid (∀(q:Option Addr) (cq:Nat) W,Ext w W→Sl W (.slice q (JW.length - hb.length) cq) 1 ((JW.drop hb.length).map strC)→Calls Tryz.prog 40 #[.slice aa a.length ac, .slice ga hg.length gc, .slice q (JW.length - hb.length) cq] W (RFillPostF a hg (JW.drop hb.length) W)):=Hm (fun q cq W h hq=>by
  have hl:(JW.drop hb.length).length=JW.length - hb.length:=by rw [List.length_drop]
  have:=rfill_anyF a hg (JW.drop hb.length) aa ga q ac gc cq W (HH.out.2.1.ext h) HNL.out.2 (HH.out.2.2.2.2.ext h) (by rw [hl];exact hq) HSM.out.a (by omega) (by rw [hl];have:=HJL.out;omega) (fun t ht=>HJZ.out t (List.mem_of_mem_drop ht))
  rw [hl] at this
  exact this)
 obtain ⟨E1,hE1⟩:∃E,E=fillE b hb (JW.take hb.length):=⟨_,rfl⟩
 obtain ⟨W1,hW1⟩:∃E,E=fillW b hb (JW.take hb.length):=⟨_,rfl⟩
 obtain ⟨E9,hE9⟩:∃E,E=fillE a hg (JW.drop hb.length):=⟨_,rfl⟩
 obtain ⟨W9,hW9⟩:∃E,E=fillW a hg (JW.drop hb.length):=⟨_,rfl⟩
 unfold RFillPostF at HFB HFA
 rw [←hE1,←hW1] at HFB
 rw [←hE9,←hW9] at HFA
 have HPF:Hid (fillPE (⟨⟨kind,ao,av,old,b,a,rs,fl⟩,hb,hg⟩:Pt) ps=if E1≠0 then E1 else E9):=Hm (by
  unfold fillPE
  simp only
  rw [HTX.out,←hE1,←hE9,←HLL.out,←HJE.out]
  rfl)
 have HPV:Hid (E1=0→E9=0→fillPV (⟨⟨kind,ao,av,old,b,a,rs,fl⟩,hb,hg⟩:Pt) ps=⟨kind,ao,av,old,W1,W9,rs,fl⟩):=Hm (fun h1 h9=>by
  unfold fillPV
  rw [if_pos (by rw [HPF.out,if_neg (by simpa using h1)];exact h9)]
  simp only
  rw [HTX.out,hW1,hW9]
  unfold fillW
  rw [if_pos (by rw [←hE1];exact h1),if_pos (by rw [←hE9];exact h9)])
 clear hE1 hW1 hE9 hW9
 have hc1:(hb.length:Int)≤(c2:Int):=by have:=HC5.out;omega
 have hc2:(hb.length:Int)≤(JW.length:Int):=by have:=HC5.out;omega
 have hc3:(c2:Int)≤9223372036854775807:=by have:=HC5.out;unfold maxLen at this;omega
 have g5:=HB5.out.cell
 have z5:=HB5.out.lt
 have gP:=HBP.out.cell
 have zP:=HBP.out.lt
 clear hw4
 refine wp_region_head 14 (fun w' =>Ext (w4) w'∧(∀b o,b<(w4).heap.size→w'.cell? ⟨b,o,none⟩=(w4).cell? ⟨b,o,none⟩)∧(∀b o,b<(w4).heap.size→w'.frozen? ⟨b,o,none⟩=(w4).frozen? ⟨b,o,none⟩)) (by kernel_rfl) (by decide) ?_
 have hA0:Hid ((fun w' =>Ext (w4) w'∧(∀b o,b<(w4).heap.size→w'.cell? ⟨b,o,none⟩=(w4).cell? ⟨b,o,none⟩)∧(∀b o,b<(w4).heap.size→w'.frozen? ⟨b,o,none⟩=(w4).frozen? ⟨b,o,none⟩)) w4.drew):=Hm (held_of (Ext.refl w4).drew)
 refine HG.on 0 25 hA0.out ?_
 try simp only [Act.put,List.setIfInBounds_toArray,List.set_cons_zero,List.set_cons_succ]
 refine HG.on 1 26 hA0.out ?_
 try simp only [Act.put,List.setIfInBounds_toArray,List.set_cons_zero,List.set_cons_succ]
 refine HG.on 2 27 hA0.out ?_
 try simp only [Act.put,List.setIfInBounds_toArray,List.set_cons_zero,List.set_cons_succ]
 refine HG.on 3 28 hA0.out ?_
 try simp only [Act.put,List.setIfInBounds_toArray,List.set_cons_zero,List.set_cons_succ]
 refine HG.on 4 29 hA0.out ?_
 try simp only [Act.put,List.setIfInBounds_toArray,List.set_cons_zero,List.set_cons_succ]
 refine HG.on 5 30 hA0.out ?_
 try simp only [Act.put,List.setIfInBounds_toArray,List.set_cons_zero,List.set_cons_succ]
 refine HG.on 6 31 hA0.out ?_
 try simp only [Act.put,List.setIfInBounds_toArray,List.set_cons_zero,List.set_cons_succ]
 refine HG.on 7 32 hA0.out ?_
 try simp only [Act.put,List.setIfInBounds_toArray,List.set_cons_zero,List.set_cons_succ]
 refine HG.on 8 33 hA0.out ?_
 try simp only [Act.put,List.setIfInBounds_toArray,List.set_cons_zero,List.set_cons_succ]
 clear hA0 g5 z5 gP zP
 refine wpHd_one (i:=9) rfl rfl (by kernel_rfl) (fun KK hK=> ?_)
 go_simp
 refine (HFB.out _ (Ext.refl w4).drew).mono ?_
 rintro e w5 ⟨a5,c5,rfl,hs5,hb5,hf5⟩
 have HE45:Hid (Ext w4 w5):=Hm ((Ext.refl w4).drew.trans hb5)
 have hA5:Hid ((fun w' =>Ext (w4) w'∧(∀b o,b<(w4).heap.size→w'.cell? ⟨b,o,none⟩=(w4).cell? ⟨b,o,none⟩)∧(∀b o,b<(w4).heap.size→w'.frozen? ⟨b,o,none⟩=(w4).frozen? ⟨b,o,none⟩)) w5):=Hm (held_of HE45.out)
 refine hK.out _ _ hA5.out (fun hA=> ?_)
 clear hK KK hA
 have HS5:=Hm hs5
 have HF5:Hid (W1≠ []→∀b o,a5=some ⟨b,o,none⟩→w4.heap.size≤b):=Hm hf5
 clear hs5 hb5 hf5
 refine HG.on 10 24 hA5.out ?_
 try simp only [Act.put,List.setIfInBounds_toArray,List.set_cons_zero,List.set_cons_succ]
 refine HG.on 11 35 hA5.out ?_
 try simp only [Act.put,List.setIfInBounds_toArray,List.set_cons_zero,List.set_cons_succ]
 refine HG.on 12 36 hA5.out ?_
 try simp only [Act.put,List.setIfInBounds_toArray,List.set_cons_zero,List.set_cons_succ]
 refine HG.on 13 9 hA5.out ?_
 try simp only [Act.put,List.setIfInBounds_toArray,List.set_cons_zero,List.set_cons_succ]
 clear hA5
 refine wpHd_tail (by kernel_rfl) ?_
 simp only [List.drop_succ_cons,List.drop_zero]
 have HP6:Hid (Blk w5 w.heap.size #[.int .u8 kind, .int .u32 ao, .int .u32 av, .int .u8 old, .slice ba b.length bc, .slice aa a.length ac, .slice ra rs.length rc, .int .u8 fl, .slice ha hb.length hc, .slice ga hg.length gc] 53):=Hm (HBP.out.ext HE45.out)
 have HB6:Hid (Blk w5 w2.heap.size #[.int .u8 kind, .int .u32 ao, .int .u32 av, .int .u8 old, .slice ba b.length bc, .slice aa a.length ac, .slice ra rs.length rc, .int .u8 fl] 50):=Hm (HB5.out.ext HE45.out)
 have HR6:Hid (Blk w5 (w.heap.size+1) #[.int .u8 0, .int .u32 0, .int .u32 0, .int .u8 0, .slice none 0 0, .slice none 0 0, .slice none 0 0, .int .u8 0] 50):=Hm (HB4.out.ext (HE24.out.trans HE45.out))
 have HE6:Hid (Ext w w5):=Hm (HEW4.out.trans HE45.out)
 clear HB5 HBP HFB
 by_cases h1:E1=0
 case neg=>
  have hne:(E1 !=0)=true:=by simpa using h1
  have HF:Hid (fillPE (⟨⟨kind,ao,av,old,b,a,rs,fl⟩,hb,hg⟩:Pt) ps=E1):=Hm (by rw [HPF.out,if_pos h1])
  have HV:=Hm (HPB.out (by rw [HF.out];exact h1))
  have g8:=HR6.out.cell
  have f8:=HR6.out.frozen
  have z8:=HR6.out.lt
  go_wp2
  refine bodyPost_ret (res_rpfill (Blk.eight HR6.out) rfl rfl) rfl ?_
  unfold RPFillQ
  rw [HF.out,HV.out]
  exact ⟨EL.zero,rfl,rfl,EL.zero_atR _,Kp.ext HE6.out (fun x hx _=>by omega) Kp.eight⟩
 subst h1
 have HSA:=Hm (HS2.out.after (m:=hb.length) HC5.out.2.1 HC5.out.2.2.1)
 rw [←List.map_drop] at HSA
 go_wp2
 obtain ⟨HN,hHN⟩:∃n,n=hb.length:=⟨_,rfl⟩
 rw [←hHN] at HFA HP6 HSA⊢
 have HHN:=Hm hHN
 have hc4:(HN:Int)≤(c2:Int):=by have:=HC5.out;omega
 have hc5:(HN:Int)≤(JW.length:Int):=by have:=HC5.out;omega
 have HC6:Hid (JW.length≤c2∧HN≤JW.length):=Hm (by have:=HC5.out;omega)
 clear hc1 hc2 hHN
 have hcz:c2=HN∨(c2≠HN∧a2=none)∨(c2≠HN∧∃ad,a2=some ad):=by
  by_cases h:c2=HN
  ·exact .inl h
  ·cases a2 with
   |none=>exact .inr (.inl ⟨h,rfl⟩)
   |some ad=>exact .inr (.inr ⟨h,ad,rfl⟩)
 rcases hcz with rfl|⟨hcc,rfl⟩|⟨hcc,ad,rfl⟩
 all_goals
  have hsa:=HSA.out
  clear HSA
  first
  |(rw [if_pos rfl,Nat.sub_self] at hsa;have HQQ:=Hm hsa)
  |(rw [if_neg hcc,Option.map_none] at hsa;have HQQ:=Hm hsa)
  |(rw [if_neg hcc,Option.map_some] at hsa;have HQQ:=Hm hsa)
  clear hsa
  have g6:=HB6.out.cell
  have z6:=HB6.out.lt
  have gP:=HP6.out.cell
  have zP:=HP6.out.lt
  refine wp_region_head 14 (fun w' =>Ext (w5) w'∧(∀b o,b<(w5).heap.size→w'.cell? ⟨b,o,none⟩=(w5).cell? ⟨b,o,none⟩)∧(∀b o,b<(w5).heap.size→w'.frozen? ⟨b,o,none⟩=(w5).frozen? ⟨b,o,none⟩)) (by kernel_rfl) (by decide) ?_
  have hA0:Hid ((fun w' =>Ext (w5) w'∧(∀b o,b<(w5).heap.size→w'.cell? ⟨b,o,none⟩=(w5).cell? ⟨b,o,none⟩)∧(∀b o,b<(w5).heap.size→w'.frozen? ⟨b,o,none⟩=(w5).frozen? ⟨b,o,none⟩)) w5.drew):=Hm (held_of (Ext.refl w5).drew)
  refine HG.on 0 42 hA0.out ?_
  try simp only [Act.put,List.setIfInBounds_toArray,List.set_cons_zero,List.set_cons_succ]
  refine HG.on 1 43 hA0.out ?_
  try simp only [Act.put,List.setIfInBounds_toArray,List.set_cons_zero,List.set_cons_succ]
  refine HG.on 2 44 hA0.out ?_
  try simp only [Act.put,List.setIfInBounds_toArray,List.set_cons_zero,List.set_cons_succ]
  refine HG.on 3 45 hA0.out ?_
  try simp only [Act.put,List.setIfInBounds_toArray,List.set_cons_zero,List.set_cons_succ]
  refine HG.on 4 46 hA0.out ?_
  try simp only [Act.put,List.setIfInBounds_toArray,List.set_cons_zero,List.set_cons_succ]
  refine HG.on 5 47 hA0.out ?_
  try simp only [Act.put,List.setIfInBounds_toArray,List.set_cons_zero,List.set_cons_succ]
  refine HG.on 6 48 hA0.out ?_
  try simp only [Act.put,List.setIfInBounds_toArray,List.set_cons_zero,List.set_cons_succ]
  refine HG.on 7 49 hA0.out ?_
  try simp only [Act.put,List.setIfInBounds_toArray,List.set_cons_zero,List.set_cons_succ]
  refine HG.on 8 50 hA0.out ?_
  try simp only [Act.put,List.setIfInBounds_toArray,List.set_cons_zero,List.set_cons_succ]
  clear hA0 g6 z6 gP zP
  refine wpHd_one (i:=9) rfl rfl (by kernel_rfl) (fun KK hK=> ?_)
  go_simp
  have hqq:=(HQQ.out.ext (HE24.out.trans HE45.out)).ext (Ext.refl w5).drew
  have HQ6:=Hm hqq
  clear hqq HQQ
  refine (HFA.out _ _ w5.drew (HE6.out.trans (Ext.refl w5).drew) ?_).mono ?_
  ·exact HQ6.out
  rintro e w9 ⟨a9,c9,rfl,hs9,hb9,hf9⟩
  have HE69:Hid (Ext w5 w9):=Hm ((Ext.refl w5).drew.trans hb9)
  have hA9:Hid ((fun w' =>Ext (w5) w'∧(∀b o,b<(w5).heap.size→w'.cell? ⟨b,o,none⟩=(w5).cell? ⟨b,o,none⟩)∧(∀b o,b<(w5).heap.size→w'.frozen? ⟨b,o,none⟩=(w5).frozen? ⟨b,o,none⟩)) w9):=Hm (held_of HE69.out)
  refine hK.out _ _ hA9.out (fun hA=> ?_)
  clear hK KK hA
  have HS9:=Hm hs9
  have HF9:Hid (W9≠ []→∀b o,a9=some ⟨b,o,none⟩→w5.heap.size≤b):=Hm hf9
  clear hs9 hb9 hf9
  refine HG.on 10 41 hA9.out ?_
  try simp only [Act.put,List.setIfInBounds_toArray,List.set_cons_zero,List.set_cons_succ]
  refine HG.on 11 52 hA9.out ?_
  try simp only [Act.put,List.setIfInBounds_toArray,List.set_cons_zero,List.set_cons_succ]
  refine HG.on 12 53 hA9.out ?_
  try simp only [Act.put,List.setIfInBounds_toArray,List.set_cons_zero,List.set_cons_succ]
  refine HG.on 13 10 hA9.out ?_
  try simp only [Act.put,List.setIfInBounds_toArray,List.set_cons_zero,List.set_cons_succ]
  clear hA9
  refine wpHd_tail (by kernel_rfl) ?_
  simp only [List.drop_succ_cons,List.drop_zero]
  have HR9:Hid (Blk w9 (w.heap.size+1) #[.int .u8 0, .int .u32 0, .int .u32 0, .int .u8 0, .slice none 0 0, .slice none 0 0, .slice none 0 0, .int .u8 0] 50):=Hm (HR6.out.ext HE69.out)
  have HB9:Hid (Blk w9 w2.heap.size #[.int .u8 kind, .int .u32 ao, .int .u32 av, .int .u8 old, .slice ba b.length bc, .slice aa a.length ac, .slice ra rs.length rc, .int .u8 fl] 50):=Hm (HB6.out.ext HE69.out)
  have HE9W:Hid (Ext w w9):=Hm (HE6.out.trans HE69.out)
  clear HB6 HP6 HFA
  by_cases h9:E9=0
  case neg=>
   have hne:(E9 !=0)=true:=by simpa using h9
   have HF:Hid (fillPE (⟨⟨kind,ao,av,old,b,a,rs,fl⟩,hb,hg⟩:Pt) ps=E9):=Hm (by rw [HPF.out];exact if_neg (fun h=>h rfl))
   have HV:=Hm (HPB.out (by rw [HF.out];exact h9))
   have g8:=HR9.out.cell
   have f8:=HR9.out.frozen
   have z8:=HR9.out.lt
   go_wp2
   refine bodyPost_ret (res_rpfill (Blk.eight HR9.out) rfl rfl) rfl ?_
   unfold RPFillQ
   rw [HF.out,HV.out]
   exact ⟨EL.zero,rfl,rfl,EL.zero_atR _,Kp.ext HE9W.out (fun x hx _=>by omega) Kp.eight⟩
  subst h9
  have HF:Hid (fillPE (⟨⟨kind,ao,av,old,b,a,rs,fl⟩,hb,hg⟩:Pt) ps=0):=Hm (by rw [HPF.out];exact if_neg (fun h=>h rfl))
  have HV:=Hm (HPV.out (by first|exact rfl|exact trivial) (by first|exact rfl|exact trivial))
  have gS:=HB9.out.cell
  have fS:=HB9.out.frozen
  have zS:=HB9.out.lt
  go_upto_region 12 with (fail)
  clear gS fS zS
  have HKZ:Hid (Kp (fun x=>x=w2.heap.size) w9 ((w9.setCell ⟨w2.heap.size,4,none⟩ (.slice a5 W1.length c5)).setCell ⟨w2.heap.size,5,none⟩ (.slice a9 W9.length c9))):=Hm ((Kp.set (S:=fun x=>x=w2.heap.size) _ _ rfl).trans (Kp.set (S:=fun x=>x=w2.heap.size) _ _ rfl) (fun x hx _=>hx))
  have HBZ:Hid (Blk ((w9.setCell ⟨w2.heap.size,4,none⟩ (.slice a5 W1.length c5)).setCell ⟨w2.heap.size,5,none⟩ (.slice a9 W9.length c9)) w2.heap.size #[.int .u8 kind, .int .u32 ao, .int .u32 av, .int .u8 old, .slice a5 W1.length c5, .slice a9 W9.length c9, .slice ra rs.length rc, .int .u8 fl] 50):=Hm (by
   have:=(HB9.out.set 4 (.slice a5 W1.length c5)).set 5 (.slice a9 W9.length c9)
   simpa only [List.setIfInBounds_toArray,List.set_cons_zero,List.set_cons_succ] using this)
  obtain ⟨wz,hwz⟩:∃W,W=(w9.setCell ⟨w2.heap.size,4,none⟩ (.slice a5 W1.length c5)).setCell ⟨w2.heap.size,5,none⟩ (.slice a9 W9.length c9):=⟨_,rfl⟩
  rw [←hwz] at HKZ HBZ⊢
  have HRZ:Hid (Blk wz (w.heap.size+1) #[.int .u8 0, .int .u32 0, .int .u32 0, .int .u8 0, .slice none 0 0, .slice none 0 0, .slice none 0 0, .int .u8 0] 50):=Hm (HR9.out.kp HKZ.out (by have:=HZ4.out;omega))
  have HEZ:Hid (Ext w wz):=Hm (Kp.ext HE9W.out (fun x hx _=>by have:=HZ4.out;omega) HKZ.out)
  clear hwz
  have g8:=HRZ.out.cell
  have f8:=HRZ.out.frozen
  have z8:=HRZ.out.lt
  have g9:=HBZ.out.cell
  have z9:=HBZ.out.lt
  go_wp2
  refine bodyPost_ret (res_rpfill (Blk.eight HRZ.out) rfl rfl) rfl ?_
  unfold RPFillQ
  rw [HF.out,HV.out]
  refine ⟨⟨⟨kind,ao,av,old,W1,W9,rs,fl⟩,a5,c5,a9,c9,ra,rc⟩,rfl,rfl,⟨?_, ?_, ?_⟩,Kp.ext HEZ.out (fun x hx _=>by omega) Kp.eight⟩
  ·refine (((HS5.out.ext HE69.out).kp HKZ.out (fun h0 b o e=> ?_)).kp Kp.eight (fun h0 b o e=> ?_))
   all_goals
    have h1:=HF5.out (map_ne h0) b o e
    have h2:=HZ4.out
    omega
  ·refine ((HS9.out.kp HKZ.out (fun h0 b o e=> ?_)).kp Kp.eight (fun h0 b o e=> ?_))
   all_goals
    have h1:=HF9.out (map_ne h0) b o e
    have h2:=HZ4.out
    have h3:=HE45.out.size
    omega
  ·refine (((HH.out.2.2.1.ext HE9W.out).kp HKZ.out (fun h0 b o e=> ?_)).kp Kp.eight (fun h0 b o e=> ?_))
   all_goals
    (try simp only at e)
    subst e
    have h1:=Sl.lt HH.out.2.2.1 h0
    have h2:=HZ4.out
    omega
end Go.Proofs.YtodbhliidbclcaaGreat
