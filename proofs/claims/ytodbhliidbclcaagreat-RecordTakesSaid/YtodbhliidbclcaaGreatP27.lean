/-
An event of a payload taken: the reference's rows.
-/
import Derived.Laws.AppendOwnNone
import Derived.Test.YtodbhliidbclcaaGreatP26
set_option maxRecDepth 100000
set_option maxHeartbeats 16000000
namespace Go.Proofs.YtodbhliidbclcaaGreat
open Go.RowKit
theorem RS.gave {st:RS} (h:st.ok) (he:st.e≠0):st=⟨[],st.e⟩:=by
 obtain ⟨l,e⟩:=st
 have:=h.1 he
 simp only at this
 subst this;rfl
theorem begR_gave {r:Rl} {ver E:Int} (he:E≠0):begR r ver ⟨[],E⟩=⟨[],E⟩:=by
 unfold begR
 rw [failS_gave he]
 split
 ·rfl
 ·exact giveS_gave 18 he
theorem takeT_gave {r:Rl} {ver E:Int} (he:E≠0):takeT r ver ⟨[],E⟩=(([], []),⟨[],E⟩):=by
 unfold takeT
 rw [begR_gave he,if_pos he]
theorem oldR_gave {kind E:Int} (he:E≠0):oldR kind ⟨[],E⟩=(0,⟨[],E⟩):=by
 unfold oldR
 split
 ·rfl
 ·exact byteR_gave he
theorem rowR_gave {kind ver:Int} {a:Rf} {r:Rl} {E:Int} (he:E≠0):rowR kind ver a r ⟨[],E⟩=(⟨⟨kind,a.o,a.v,0, [], [], [],0⟩, [], []⟩,⟨[],E⟩):=by
 unfold rowR
 simp only [oldR_gave he]
 have h1:capR 0 ⟨[],E⟩=⟨[],E⟩:=by unfold capR;rw [if_neg (by omega)]
 have h2:befR r ver 0 ⟨[],E⟩=(([], []),⟨[],E⟩):=by unfold befR;rw [if_pos rfl]
 have h3:aftR r ver kind ⟨[],E⟩=(([], []),⟨[],E⟩):=by
  unfold aftR
  split
  ·rfl
  ·exact takeT_gave he
 simp only [h1,h2,h3]
theorem rowsR_ref {kind ver:Int} {ps:List RR} {st:RS} (hst:(refR st).2.ok):rowsR kind (ps.map RR.r) ver st=rowR kind ver (refR st).1 ((getP (refR st).1.o (refR st).1.v ps).getD RR.zero).r (if (getP (refR st).1.o (refR st).1.v ps).isSome=true then (refR st).2 else giveS (refR st).2 10):=by
 unfold rowsR
 rw [←getP_map]
 cases hg:getP (refR st).1.o (refR st).1.v ps with
 |some p=>rfl
 |none=>
  simp only [Option.map_none,Option.isSome_none,Bool.false_eq_true,if_false]
  have h1:=giveS_ok hst 10
  have h2:(giveS (refR st).2 10).e≠0:=giveS_e (by decide)
  rw [RS.gave h1 h2,rowR_gave h2]
theorem rtake46_any (kind ver:Int) (v:Value) (l:List Int) (ps:List RR) (a:Option Addr) (cap:Nat) (w:World) (hl:AB w v l) (hlen:l.length≤1000000) (hb:isB l) (hv:ver=1∨ver=2) (hk:4≤kind∧kind≤6) (hU:RL w (.slice a ps.length cap) ps) (hn:ps.length≤1000) (hc:RCat ps):
 Calls Tryz.prog 8 #[.slice a ps.length cap, .int .u8 kind,v, .int .u8 ver] w (RTakeQ (takeEP (ps.map RR.r) kind l ver) (takeEE (ps.map RR.r) kind l ver) w):=by
 have hbd:bodyE kind (ps.map RR.r) ver ⟨l,0⟩=rowsR kind (ps.map RR.r) ver ⟨l,0⟩:=if_neg (by omega)
 have HE:Hid (takeEE (ps.map RR.r) kind l ver=endE (rowsR kind (ps.map RR.r) ver ⟨l,0⟩).2):=Hm (by unfold takeEE;rw [if_neg (by omega),if_pos hv,hbd])
 have HP:Hid (takeEP (ps.map RR.r) kind l ver=if endE (rowsR kind (ps.map RR.r) ver ⟨l,0⟩).2=0 then (rowsR kind (ps.map RR.r) ver ⟨l,0⟩).1 else Pt.zero):=Hm (by unfold takeEP;rw [HE.out,hbd])
 clear hbd
 rw [HE.out,HP.out]
 clear HE HP
 obtain ⟨a0,cp0,rfl,hsh⟩:∃a0 cp0,v= .slice a0 l.length cp0∧AB w (.slice a0 l.length cp0) l:=by
  obtain ⟨a0,cp0,rfl,h2⟩:=id hl
  exact ⟨a0,cp0,rfl,hl⟩
 clear hsh
 have HRA:Hid (RF ((w.alloc (.cells #[.int .u8 0, .int .u32 0, .int .u32 0, .int .u8 0, .slice none 0 0, .slice none 0 0, .slice none 0 0, .int .u8 0, .slice none 0 0, .slice none 0 0] 53)).alloc (.cells #[.slice a0 l.length cp0, .int .i64 0, .int .i64 0] 91)) (w.alloc (.cells #[.int .u8 0, .int .u32 0, .int .u32 0, .int .u8 0, .slice none 0 0, .slice none 0 0, .slice none 0 0, .int .u8 0, .slice none 0 0, .slice none 0 0] 53)).heap.size 0 ⟨l,0⟩):=Hm (RF.arg (hl.ext ((Ext.refl w).alloc _)) hb hlen)
 have HTR:=Hm (fun g W (h:RF W g 0 ⟨l,0⟩)=>rtakeref_any g 0 ⟨l,0⟩ W h)
 have HOK:Hid ((refR ⟨l,0⟩).2.ok):=Hm (uintR_ok (uintR_ok ⟨fun h=>absurd rfl h,hb⟩ _) _)
 have HRW:=Hm (rowsR_ref (kind:=kind) (ver:=ver) (ps:=ps) HOK.out)
 obtain ⟨R,hR⟩:∃R,R=rowsR kind (ps.map RR.r) ver ⟨l,0⟩:=⟨_,rfl⟩
 rw [←hR] at HRW⊢
 unfold FPost at HTR
 obtain ⟨⟨ao,av⟩,hao⟩:∃r,r=(refR ⟨l,0⟩).1:=⟨_,rfl⟩
 rw [←hao] at HTR HRW
 simp only at HTR HRW
 generalize (refR ⟨l,0⟩).2=s0 at HTR HRW HOK
 have HGT:=Hm (fun W (h:Ext w W)=>rget_any ps a cap ao av W (hU.ext h) hn)
 have HQF:Hid (((getP ao av ps).getD RR.zero).in w∧((getP ao av ps).getD RR.zero).r.cols.length≤1000∧(∀c∈((getP ao av ps).getD RR.zero).r.cols,c.nm.size≤9223372036854775807)∧((getP ao av ps).getD RR.zero).r.nm.size≤9223372036854775807):=Hm (by
  cases hg:getP ao av ps with
  |none=>exact ⟨⟨none,0,rfl, .inl rfl⟩,Nat.zero_le _,fun c h=>(by cases h),Nat.zero_le _⟩
  |some p=>
   have hp:=(getP_some hg).1
   have hw:=hc.wb p hp
   exact ⟨hU.sl p hp,by have:=hc.n16 hp;simp only [Option.getD_some];omega,hw.cs,hw.nm⟩)
 obtain ⟨IS,hIS⟩:∃b,b=(getP ao av ps).isSome:=⟨_,rfl⟩
 obtain ⟨⟨⟨oid,vr,nm,id,cols⟩,qa,qc⟩,hq⟩:∃q,q=(getP ao av ps).getD RR.zero:=⟨_,rfl⟩
 rw [←hIS] at HGT HRW
 rw [←hq] at HGT HQF HRW
 unfold RR.in at HQF
 unfold RR.agg at HGT
 simp only at HGT HQF HRW
 obtain ⟨EE,hEE⟩:∃E,E=endE R.2:=⟨_,rfl⟩
 obtain ⟨PP,hPP⟩:∃E:Pt,E=if EE=0 then R.1 else Pt.zero:=⟨_,rfl⟩
 rw [←hEE]
 rw [←hPP]
 have HEE:=Hm hEE
 have HPP:=Hm hPP
 have HBY:=Hm (fun g S W h=>fbyte_any g 0 S W h)
 have HGU:=Hm (fun g S x W h hx=>fgive_any g 0 S x W h hx)
 have HEN:=Hm (fun g S W (h:RF W g 0 S)=>fend_any g 0 S W h)
 unfold FPost at HBY HGU
 have HV:=Hm hv
 have HK46:=Hm hk
 have hk4: ¬ kind<4:=by omega
 have hk7: ¬ 7<kind:=by omega
 have hk7' :(kind==7)=false:=by rw [beq_eq_false_iff_ne];omega
 obtain ⟨LN,hLN⟩:∃n,n=l.length:=⟨_,rfl⟩
 rw [←hLN] at HRA⊢
 clear hl hb hlen hv hR hao hIS hq hEE hPP hU hc hn hk hLN
 go_enter Tryz.func8,Tryz.ntmps8
 go_upto_region 3 with (fail)
 go_cut [29] (fun c wx=>c= .bool false∧wx=w.alloc (.cells #[.int .u8 0, .int .u32 0, .int .u32 0, .int .u8 0, .slice none 0 0, .slice none 0 0, .slice none 0 0, .int .u8 0, .slice none 0 0, .slice none 0 0] 53))
 case first=>
  rcases HV.out with rfl|rfl
  all_goals
   go_wp2
   go_meet
   case rel=>exact ⟨rfl,rfl⟩
 case rest=>
 obtain ⟨rfl,rfl⟩:=hcut
 go_upto_region 14 with (fail)
 have HB8:Hid (Blk (((w.alloc (.cells #[.int .u8 0, .int .u32 0, .int .u32 0, .int .u8 0, .slice none 0 0, .slice none 0 0, .slice none 0 0, .int .u8 0, .slice none 0 0, .slice none 0 0] 53)).alloc (.cells #[.slice a0 LN cp0, .int .i64 0, .int .i64 0] 91)).alloc (.cells #[.int .u8 kind, .int .u32 0, .int .u32 0, .int .u8 0, .slice none 0 0, .slice none 0 0, .slice none 0 0, .int .u8 0, .slice none 0 0, .slice none 0 0] 53)) w.heap.size #[.int .u8 0, .int .u32 0, .int .u32 0, .int .u8 0, .slice none 0 0, .slice none 0 0, .slice none 0 0, .int .u8 0, .slice none 0 0, .slice none 0 0] 53):=Hm (((Blk.new w _ _).alloc _).alloc _)
 have HE0:Hid (Ext w (((w.alloc (.cells #[.int .u8 0, .int .u32 0, .int .u32 0, .int .u8 0, .slice none 0 0, .slice none 0 0, .slice none 0 0, .int .u8 0, .slice none 0 0, .slice none 0 0] 53)).alloc (.cells #[.slice a0 LN cp0, .int .i64 0, .int .i64 0] 91)).alloc (.cells #[.int .u8 kind, .int .u32 0, .int .u32 0, .int .u8 0, .slice none 0 0, .slice none 0 0, .slice none 0 0, .int .u8 0, .slice none 0 0, .slice none 0 0] 53))):=Hm ((((Ext.refl w).alloc _).alloc _).alloc _)
 have HBQ:Hid (Blk (((w.alloc (.cells #[.int .u8 0, .int .u32 0, .int .u32 0, .int .u8 0, .slice none 0 0, .slice none 0 0, .slice none 0 0, .int .u8 0, .slice none 0 0, .slice none 0 0] 53)).alloc (.cells #[.slice a0 LN cp0, .int .i64 0, .int .i64 0] 91)).alloc (.cells #[.int .u8 kind, .int .u32 0, .int .u32 0, .int .u8 0, .slice none 0 0, .slice none 0 0, .slice none 0 0, .int .u8 0, .slice none 0 0, .slice none 0 0] 53)) (w.heap.size+1+1) #[.int .u8 kind, .int .u32 0, .int .u32 0, .int .u8 0, .slice none 0 0, .slice none 0 0, .slice none 0 0, .int .u8 0, .slice none 0 0, .slice none 0 0] 53):=Hm (Blk.new' (w:=(w.alloc (.cells #[.int .u8 0, .int .u32 0, .int .u32 0, .int .u8 0, .slice none 0 0, .slice none 0 0, .slice none 0 0, .int .u8 0, .slice none 0 0, .slice none 0 0] 53)).alloc (.cells #[.slice a0 LN cp0, .int .i64 0, .int .i64 0] 91)) _ _ (by simp))
 have HRQ:Hid (RF (((w.alloc (.cells #[.int .u8 0, .int .u32 0, .int .u32 0, .int .u8 0, .slice none 0 0, .slice none 0 0, .slice none 0 0, .int .u8 0, .slice none 0 0, .slice none 0 0] 53)).alloc (.cells #[.slice a0 LN cp0, .int .i64 0, .int .i64 0] 91)).alloc (.cells #[.int .u8 kind, .int .u32 0, .int .u32 0, .int .u8 0, .slice none 0 0, .slice none 0 0, .slice none 0 0, .int .u8 0, .slice none 0 0, .slice none 0 0] 53)) (w.heap.size+1) 0 ⟨l,0⟩):=Hm (by
  have h1:=HRA.out.ext ((Ext.refl _).alloc (.cells #[.int .u8 kind, .int .u32 0, .int .u32 0, .int .u8 0, .slice none 0 0, .slice none 0 0, .slice none 0 0, .int .u8 0, .slice none 0 0, .slice none 0 0] 53))
  rw [World.size_alloc] at h1
  exact h1)
 have HSQ:Hid ((((w.alloc (.cells #[.int .u8 0, .int .u32 0, .int .u32 0, .int .u8 0, .slice none 0 0, .slice none 0 0, .slice none 0 0, .int .u8 0, .slice none 0 0, .slice none 0 0] 53)).alloc (.cells #[.slice a0 LN cp0, .int .i64 0, .int .i64 0] 91)).alloc (.cells #[.int .u8 kind, .int .u32 0, .int .u32 0, .int .u8 0, .slice none 0 0, .slice none 0 0, .slice none 0 0, .int .u8 0, .slice none 0 0, .slice none 0 0] 53)).heap.size=w.heap.size+1+1+1):=Hm (by simp)
 obtain ⟨w0,hw0⟩:∃W,W=((w.alloc (.cells #[.int .u8 0, .int .u32 0, .int .u32 0, .int .u8 0, .slice none 0 0, .slice none 0 0, .slice none 0 0, .int .u8 0, .slice none 0 0, .slice none 0 0] 53)).alloc (.cells #[.slice a0 LN cp0, .int .i64 0, .int .i64 0] 91)).alloc (.cells #[.int .u8 kind, .int .u32 0, .int .u32 0, .int .u8 0, .slice none 0 0, .slice none 0 0, .slice none 0 0, .int .u8 0, .slice none 0 0, .slice none 0 0] 53):=⟨_,rfl⟩
 rw [←hw0] at HB8 HE0 HBQ HRQ HSQ⊢
 obtain ⟨Q,hQ⟩:∃q,q=w.heap.size+1+1:=⟨_,rfl⟩
 rw [←hQ] at HBQ HSQ⊢
 obtain ⟨g,hg⟩:∃q,q=w.heap.size+1:=⟨_,rfl⟩
 rw [←hg] at HRQ⊢
 have HQG:Hid (w.heap.size<g∧g<Q∧Q<w0.heap.size):=Hm (by have:=HSQ.out;omega)
 have hqg:Q≠g:=by omega
 clear hw0 hQ hg HRA HSQ
 go_upto_region 15 with (go_at_call 28;refine (HTR.out g _ HRQ.out).mono ?_;rintro e w1 ⟨rfl,h1,t1⟩;have H1:=Hm h1;have HV1:=Hm (HBQ.out.tch t1 hqg);have HK1:=Hm (t1.kp.mono (T:=fun x=>x=Q∨x=g) (fun x hx _=> .inr hx));clear h1 t1;have gv:=HV1.out.cell;have fv:=HV1.out.frozen;have zv:=HV1.out.lt)
 have HB2:Hid (Blk ((w1.setCell ⟨Q,1,none⟩ (.int .u32 ao)).setCell ⟨Q,2,none⟩ (.int .u32 av)) Q #[.int .u8 kind, .int .u32 ao, .int .u32 av, .int .u8 0, .slice none 0 0, .slice none 0 0, .slice none 0 0, .int .u8 0, .slice none 0 0, .slice none 0 0] 53):=Hm (by
  have:=(HV1.out.set 1 (.int .u32 ao)).set 2 (.int .u32 av)
  simpa only [List.setIfInBounds_toArray,List.set_cons_zero,List.set_cons_succ] using this)
 have HR2:Hid (RF ((w1.setCell ⟨Q,1,none⟩ (.int .u32 ao)).setCell ⟨Q,2,none⟩ (.int .u32 av)) g 0 s0):=Hm ((H1.out.set HQG.out.2.1 1 _).set HQG.out.2.1 2 _)
 have HK2:Hid (Kp (fun x=>x=Q∨x=g) w0 ((w1.setCell ⟨Q,1,none⟩ (.int .u32 ao)).setCell ⟨Q,2,none⟩ (.int .u32 av))):=Hm ((HK1.out.trans (T:=fun x=>x=Q∨x=g) (Kp.set (S:=fun x=>x=Q∨x=g) _ _ (.inl rfl)) (fun x hx _=>hx)).trans (T:=fun x=>x=Q∨x=g) (Kp.set (S:=fun x=>x=Q∨x=g) _ _ (.inl rfl)) (fun x hx _=>hx))
 obtain ⟨w2,hw2⟩:∃x,x=(w1.setCell ⟨Q,1,none⟩ (.int .u32 ao)).setCell ⟨Q,2,none⟩ (.int .u32 av):=⟨_,rfl⟩
 rw [←hw2] at HB2 HR2 HK2⊢
 have HE2:=Hm (Kp.ext HE0.out (fun x hx _=>by have:=HQG.out;omega) HK2.out)
 have HB82:=Hm (HB8.out.kp HK2.out (by have:=HQG.out;omega))
 clear gv fv zv hw2 HV1 H1 HRQ HBQ HTR HK1 HB8
 have gv:=HB2.out.cell
 have fv:=HB2.out.frozen
 have zv:=HB2.out.lt
 go_upto_region 16 with (go_at_call 29;refine (HGT.out _ HE2.out).mono ?_;rintro e w3 ⟨rfl,hb3⟩;have HX3:=Hm hb3;clear hb3 gv fv zv)
 have HXB:=Hm (Blk.new w3 #[.int .u32 oid, .int .u32 vr, .string nm, .int .u8 id, .slice qa cols.length qc] 77)
 have HPG:=Hm (HB2.out.ext (HX3.out.alloc (.cells #[.int .u32 oid, .int .u32 vr, .string nm, .int .u8 id, .slice qa cols.length qc] 77)))
 have HRG:=Hm (HR2.out.ext (HX3.out.alloc (.cells #[.int .u32 oid, .int .u32 vr, .string nm, .int .u8 id, .slice qa cols.length qc] 77)))
 have HEG:=Hm (HE2.out.trans (HX3.out.alloc (.cells #[.int .u32 oid, .int .u32 vr, .string nm, .int .u8 id, .slice qa cols.length qc] 77)))
 have HB8G:=Hm (HB82.out.ext (HX3.out.alloc (.cells #[.int .u32 oid, .int .u32 vr, .string nm, .int .u8 id, .slice qa cols.length qc] 77)))
 have HSZ:Hid (g<w3.heap.size∧Q<w3.heap.size):=Hm (by have h1:=HB2.out.lt;have h2:=HR2.out.lt;have h3:=HX3.out.size;omega)
 obtain ⟨X,hX⟩:∃X,X=w3.heap.size:=⟨_,rfl⟩
 obtain ⟨wG,hwG⟩:∃W,W=w3.alloc (.cells #[.int .u32 oid, .int .u32 vr, .string nm, .int .u8 id, .slice qa cols.length qc] 77):=⟨_,rfl⟩
 rw [←hwG,←hX] at HXB
 rw [←hwG] at HPG HRG HEG HB8G⊢
 rw [←hX] at HSZ⊢
 clear hX hwG HB2 HR2 HE2 HX3 HB82 HK2 HGT
 have HXW:=Hm (fun W (hk:Kp (fun x=>x=Q∨x=g) wG W)=>HXB.out.kp hk (by have:=HSZ.out;omega))
 have HB8W:=Hm (fun W (hk:Kp (fun x=>x=Q∨x=g) wG W)=>HB8G.out.kp hk (by have:=HQG.out;omega))
 have HEW:=Hm (fun W (hk:Kp (fun x=>x=Q∨x=g) wG W)=>Kp.ext HEG.out (fun x hx _=>by have:=HQG.out;omega) hk)
 obtain ⟨s1,hs1⟩:∃s,s=if IS=true then s0 else giveS s0 10:=⟨_,rfl⟩
 rw [←hs1] at HRW
 have HS1:=Hm hs1
 clear hs1 HXB HB8G
 go_upto_if 72 with (fail)
 go_cut [] (fun wx=>Hid (Blk wx Q #[.int .u8 kind, .int .u32 ao, .int .u32 av, .int .u8 0, .slice none 0 0, .slice none 0 0, .slice none 0 0, .int .u8 0, .slice none 0 0, .slice none 0 0] 53)∧Hid (RF wx g 0 s1)∧Hid (Kp (fun x=>x=Q∨x=g) wG wx))
 case first=>
  cases IS with
  |true=>
   have HO:Hid (s1=s0):=Hm HS1.out
   go_wp2
   go_meet
   case rel=>rw [HO.out];exact ⟨HPG,HRG,Hm Kp.refl⟩
  |false=>
   have HO:Hid (s1=giveS s0 10):=Hm HS1.out
   go_wp2_with (go_at_call 30;refine (HGU.out g s0 10 _ HRG.out (by decide)).mono ?_;rintro e w4 ⟨rfl,h4,t4⟩;have H4:=Hm h4;have HP4:=Hm (HPG.out.tch t4 hqg);have HK4:=Hm (t4.kp.mono (T:=fun x=>x=Q∨x=g) (fun x hx _=> .inr hx));clear h4 t4)
   go_meet
   case rel=>rw [HO.out];exact ⟨HP4,H4,HK4⟩
 case rest=>
 obtain ⟨HPA,HRA,HKA⟩:=hcut
 clear HPG HRG HS1 HOK
 have gv:=HPA.out.cell
 have fv:=HPA.out.frozen
 have zv:=HPA.out.lt
 go_upto_if 76 with (fail)
 go_cut [] (fun wx=>Hid (Blk wx Q #[.int .u8 kind, .int .u32 ao, .int .u32 av, .int .u8 (oldR kind s1).1, .slice none 0 0, .slice none 0 0, .slice none 0 0, .int .u8 0, .slice none 0 0, .slice none 0 0] 53)∧Hid (RF wx g 0 (oldR kind s1).2)∧Hid (Kp (fun x=>x=Q∨x=g) wG wx))
 case first=>
  by_cases h4:kind=4
  ·have h4' : ¬ 4<kind:=by omega
   have HO:Hid (oldR kind s1=(0,s1)):=Hm (if_pos h4)
   clear h4
   go_wp2
   go_meet
   case rel=>rw [HO.out];exact ⟨HPA,HRA,HKA⟩
  ·have h4' :4<kind:=by have:=HK46.out;omega
   have HO:Hid (oldR kind s1=byteR s1):=Hm (if_neg h4)
   have HB:=Hm (HBY.out g s1 _ HRA.out)
   obtain ⟨o,ho⟩:∃o,o=byteR s1:=⟨_,rfl⟩
   rw [←ho] at HB HO
   clear h4 ho
   go_wp2_with (go_at_call 26;refine HB.out.mono ?_;rintro e w4 ⟨rfl,h4,t4⟩;have H4:=Hm h4;have HP4:=Hm (HPA.out.tch t4 hqg);have HK4:=Hm (HKA.out.trans (T:=fun x=>x=Q∨x=g) (t4.kp.mono (T:=fun x=>x=Q∨x=g) (fun x hx _=> .inr hx)) (fun x hx _=>hx));clear h4 t4 gv fv zv;have gv:=HP4.out.cell;have fv:=HP4.out.frozen;have zv:=HP4.out.lt)
   go_meet
   case rel=>
    rw [HO.out]
    refine ⟨Hm ?_,Hm (H4.out.set HQG.out.2.1 3 _),Hm (HK4.out.trans (T:=fun x=>x=Q∨x=g) (Kp.set _ _ (.inl rfl)) (fun x hx _=>hx))⟩
    have:=HP4.out.set 3 (.int .u8 o.1)
    simpa only [List.setIfInBounds_toArray,List.set_cons_zero,List.set_cons_succ] using this
 case rest=>
 obtain ⟨HP1,HR1,HK1⟩:=hcut
 obtain ⟨old,hold⟩:∃o,o=(oldR kind s1).1:=⟨_,rfl⟩
 obtain ⟨s2,hs2⟩:∃o,o=(oldR kind s1).2:=⟨_,rfl⟩
 have HRO:Hid (R=(⟨⟨kind,ao,av,old,(befR (⟨oid,vr,nm,id,cols⟩:Rl) ver old (capR old s2)).1.1,(aftR (⟨oid,vr,nm,id,cols⟩:Rl) ver kind (befR (⟨oid,vr,nm,id,cols⟩:Rl) ver old (capR old s2)).2).1.1, [],0⟩,(befR (⟨oid,vr,nm,id,cols⟩:Rl) ver old (capR old s2)).1.2,(aftR (⟨oid,vr,nm,id,cols⟩:Rl) ver kind (befR (⟨oid,vr,nm,id,cols⟩:Rl) ver old (capR old s2)).2).1.2⟩,(aftR (⟨oid,vr,nm,id,cols⟩:Rl) ver kind (befR (⟨oid,vr,nm,id,cols⟩:Rl) ver old (capR old s2)).2).2)):=Hm (by rw [HRW.out,hold,hs2];rfl)
 have HOL:Hid (0≤old):=Hm (by
  rw [hold]
  unfold oldR
  split
  ·exact Int.le_refl _
  ·have h1:=HRA.out.ok
   have h2:=bytesR_isB h1 1
   show 0≤(bytesR 1 s1).1.headD 0
   generalize (bytesR 1 s1).1=L at h2
   cases L with
   |nil=>exact Int.le_refl _
   |cons z t=>exact (h2 z List.mem_cons_self).1)
 rw [←hold] at HP1
 rw [←hs2] at HR1
 clear hold hs2 gv fv zv HRW HBY HPA HRA HKA
 have gv:=HP1.out.cell
 have fv:=HP1.out.frozen
 have zv:=HP1.out.lt
 go_upto_if 84 with (fail)
 go_cut [] (fun wx=>Hid (Blk wx Q #[.int .u8 kind, .int .u32 ao, .int .u32 av, .int .u8 old, .slice none 0 0, .slice none 0 0, .slice none 0 0, .int .u8 0, .slice none 0 0, .slice none 0 0] 53)∧Hid (RF wx g 0 (capR old s2))∧Hid (Kp (fun x=>x=Q∨x=g) wG wx))
 case first=>
  by_cases h2:2<old
  ·have HO:Hid (capR old s2=giveS s2 14):=Hm (if_pos h2)
   have HF:=Hm (HGU.out g s2 14 _ HR1.out (by decide))
   go_wp2_with (go_at_call 30;refine HF.out.mono ?_;rintro e w4 ⟨rfl,h4,t4⟩;have H4:=Hm h4;have HP4:=Hm (HP1.out.tch t4 hqg);have HK4:=Hm (HK1.out.trans (T:=fun x=>x=Q∨x=g) (t4.kp.mono (T:=fun x=>x=Q∨x=g) (fun x hx _=> .inr hx)) (fun x hx _=>hx));clear h4 t4)
   go_meet
   case rel=>rw [HO.out];exact ⟨HP4,H4,HK4⟩
  ·have HO:Hid (capR old s2=s2):=Hm (if_neg h2)
   go_wp2
   go_meet
   case rel=>rw [HO.out];exact ⟨HP1,HR1,HK1⟩
 case rest=>
 obtain ⟨HP2,HR2,HK2⟩:=hcut
 clear gv fv zv HP1 HR1 HK1 HGU
 obtain ⟨s3,hs3⟩:∃o,o=capR old s2:=⟨_,rfl⟩
 rw [←hs3] at HR2 HRO
 clear hs3
 have gv:=HP2.out.cell
 have fv:=HP2.out.frozen
 have zv:=HP2.out.lt
 have HTA:=Hm (fun S W (h:RF W g 0 S) (hk:Kp (fun x=>x=Q∨x=g) wG W)=>rrowtakeN_any g 0 S oid vr nm id cols qa qc ver W h (HQF.out.1.ext (HEW.out W hk)) (fun b o e h0=>by
  have h1:=HQF.out.1
  rw [e] at h1
  have h2:=Sl.lt h1 (fun q=>h0 (by simpa using q))
  have:=HQG.out
  omega) HQF.out.2.1 HQF.out.2.2.1 HQF.out.2.2.2)
 unfold RTkPostN at HTA
 have gx:=(HXW.out _ HK2.out).cell
 have zx:=(HXW.out _ HK2.out).lt
 obtain ⟨RB,hRB⟩:∃o,o=befR (⟨oid,vr,nm,id,cols⟩:Rl) ver old s3:=⟨_,rfl⟩
 rw [←hRB] at HRO
 have HRB:=Hm hRB
 clear hRB
 go_upto_if 90 with (fail)
 go_cut [] (fun wx=>∃ba bc ha hc,Hid (Blk wx Q (#[.int .u8 kind, .int .u32 ao, .int .u32 av, .int .u8 old, .slice ba RB.1.1.length bc, .slice none 0 0, .slice none 0 0, .int .u8 0, .slice ha RB.1.2.length hc, .slice none 0 0]) 53)∧Hid (Sl wx (.slice ba RB.1.1.length bc) 6 (RB.1.1.map K.rc))∧Hid (Sl wx (.slice ha RB.1.2.length hc) 2 (RB.1.2.map Ho.cells))∧Hid ((∀k o,ba=some ⟨k,o,none⟩→wG.heap.size≤k)∧(∀k o,ha=some ⟨k,o,none⟩→wG.heap.size≤k)∧(ba=none→bc=0))∧Hid (RF wx g 0 RB.2)∧Hid (Kp (fun x=>x=Q∨x=g) wG wx))
 case first=>
  by_cases h0:old=0
  ·have h0' : ¬ 0<old:=by omega
   have HO:Hid (RB=(([], []),s3)):=Hm (by rw [HRB.out];exact if_pos h0)
   clear h0
   go_wp2
   go_meet
   case rel=>rw [HO.out];exact ⟨none,0,none,0,HP2,Hm (Sl.nil0 _ _),Hm (Sl.nil0 _ _),Hm ⟨(fun _ _ e=>by cases e),(fun _ _ e=>by cases e),fun _=>rfl⟩,HR2,HK2⟩
  ·have h0' :0<old:=by have:=HOL.out;omega
   have HO:Hid (RB=takeT (⟨oid,vr,nm,id,cols⟩:Rl) ver s3):=Hm (by rw [HRB.out];exact if_neg h0)
   have HF:=Hm (HTA.out s3 _ HR2.out HK2.out)
   rw [←HO.out] at HF
   clear h0
   go_wp2_with (go_at_call 31;refine HF.out.mono ?_;rintro e w4 ⟨a1,c1,a2,c2,rfl,hs1,hs2,hb1,hb2,h4,t4,hnl, -⟩;have H4:=Hm h4;have HS1:=Hm hs1;have HS2:=Hm hs2;have HBB:=Hm (And.intro hb1 (And.intro hb2 hnl));have HP4:=Hm (HP2.out.tch t4 hqg);have HK4:=Hm (HK2.out.trans (T:=fun x=>x=Q∨x=g) (t4.kp.mono (T:=fun x=>x=Q∨x=g) (fun x hx _=> .inr hx)) (fun x hx _=>hx));clear h4 t4 hs1 hs2 hb1 hb2 hnl gv fv zv gx zx;have gv:=HP4.out.cell;have fv:=HP4.out.frozen;have zv:=HP4.out.lt)
   go_meet
   case rel=>
    have hsz:=HK2.out.size
    have hz:=HSZ.out
    have hzG:=HP2.out.lt
    have hzW:Q<wG.heap.size:=by have:=HQG.out;have:=HXW.out wG Kp.refl;have:=this.lt;omega
    have hk2:Kp (fun x=>x=Q) w4 ((w4.setCell ⟨Q,3+1,none⟩ (.slice a1 RB.1.1.length c1)).setCell ⟨Q,8,none⟩ (.slice a2 RB.1.2.length c2)):=(Kp.set (S:=fun x=>x=Q) _ _ rfl).trans (Kp.set (S:=fun x=>x=Q) _ _ rfl) (fun x hx _=>hx)
    refine ⟨a1,c1,a2,c2,Hm ?_,Hm (HS1.out.kp hk2 (fun _ b o e=>by have:=HBB.out.1 b o e;omega)),Hm (HS2.out.kp hk2 (fun _ b o e=>by have:=HBB.out.2.1 b o e;omega)),Hm ⟨fun b o e=>by have:=HBB.out.1 b o e;omega,fun b o e=>by have:=HBB.out.2.1 b o e;omega,HBB.out.2.2⟩,Hm ((H4.out.set HQG.out.2.1 4 _).set HQG.out.2.1 8 _),Hm (HK4.out.trans (T:=fun x=>x=Q∨x=g) (hk2.mono (T:=fun x=>x=Q∨x=g) (fun x hx _=> .inl hx)) (fun x hx _=>hx))⟩
    have:=(HP4.out.set 4 (.slice a1 RB.1.1.length c1)).set 8 (.slice a2 RB.1.2.length c2)
    simpa only [List.setIfInBounds_toArray,List.set_cons_zero,List.set_cons_succ] using this
 case rest=>
 obtain ⟨ba,bc,ha,hc,HP3,HSB,HSH,HBB,HR3,HK3⟩:=hcut
 obtain ⟨RC,hRC⟩:∃o,o=aftR (⟨oid,vr,nm,id,cols⟩:Rl) ver kind RB.2:=⟨_,rfl⟩
 rw [←hRC] at HRO
 have HRC:=Hm hRC
 clear hRC gv fv zv gx zx HP2 HR2 HK2 HRB
 have gv:=HP3.out.cell
 have fv:=HP3.out.frozen
 have zv:=HP3.out.lt
 have gx:=(HXW.out _ HK3.out).cell
 have zx:=(HXW.out _ HK3.out).lt
 have HQX:Hid (Q<wG.heap.size):=Hm (by have:=HSZ.out;have h1:=(HXW.out wG Kp.refl).lt;omega)
 go_upto_if 102 with (fail)
 go_cut [] (fun wx=>∃aa ac ga gc,Hid (Blk wx Q (#[.int .u8 kind, .int .u32 ao, .int .u32 av, .int .u8 old, .slice ba RB.1.1.length bc, .slice aa RC.1.1.length ac, .slice none 0 0, .int .u8 0, .slice ha RB.1.2.length hc, .slice ga RC.1.2.length gc]) 53)∧Hid (Sl wx (.slice ba RB.1.1.length bc) 6 (RB.1.1.map K.rc))∧Hid (Sl wx (.slice ha RB.1.2.length hc) 2 (RB.1.2.map Ho.cells))∧Hid (Sl wx (.slice aa RC.1.1.length ac) 6 (RC.1.1.map K.rc))∧Hid (Sl wx (.slice ga RC.1.2.length gc) 2 (RC.1.2.map Ho.cells))∧Hid ((∀k o,aa=some ⟨k,o,none⟩→wG.heap.size≤k)∧(∀k o,ga=some ⟨k,o,none⟩→wG.heap.size≤k)∧(aa=none→ac=0))∧Hid (RF wx g 0 RC.2)∧Hid (Kp (fun x=>x=Q∨x=g) wG wx))
 case first=>
  by_cases h6:kind=6
  ·have h6' : ¬ kind<6:=by omega
   have HO:Hid (RC=(([], []),RB.2)):=Hm (by rw [HRC.out];exact if_pos h6)
   clear h6
   go_wp2
   go_meet
   case rel=>rw [HO.out];exact ⟨none,0,none,0,HP3,HSB,HSH,Hm (Sl.nil0 _ _),Hm (Sl.nil0 _ _),Hm ⟨(fun _ _ e=>by cases e),(fun _ _ e=>by cases e),fun _=>rfl⟩,HR3,HK3⟩
  ·have h6' :kind<6:=by have:=HK46.out;omega
   have HO:Hid (RC=takeT (⟨oid,vr,nm,id,cols⟩:Rl) ver RB.2):=Hm (by rw [HRC.out];exact if_neg h6)
   have HF:=Hm (HTA.out RB.2 _ HR3.out HK3.out)
   rw [←HO.out] at HF
   clear h6
   go_wp2_with (go_at_call 31;refine HF.out.mono ?_;rintro e w4 ⟨a1,c1,a2,c2,rfl,hs1,hs2,hb1,hb2,h4,t4,hnl, -⟩;have H4:=Hm h4;have HS1:=Hm hs1;have HS2:=Hm hs2;have HBD:=Hm (And.intro hb1 (And.intro hb2 hnl));have HT4:=Hm t4;have HP4:=Hm (HP3.out.tch t4 hqg);have HK4:=Hm (HK3.out.trans (T:=fun x=>x=Q∨x=g) (t4.kp.mono (T:=fun x=>x=Q∨x=g) (fun x hx _=> .inr hx)) (fun x hx _=>hx));clear h4 t4 hs1 hs2 hb1 hb2 hnl gv fv zv gx zx;have gv:=HP4.out.cell;have fv:=HP4.out.frozen;have zv:=HP4.out.lt)
   go_meet
   case rel=>
    have hsz:=HK3.out.size
    have hz:=HSZ.out
    have hzG:=HQX.out
    have hgq:=HQG.out
    have hk2:Kp (fun x=>x=Q) w4 ((w4.setCell ⟨Q,5,none⟩ (.slice a1 RC.1.1.length c1)).setCell ⟨Q,9,none⟩ (.slice a2 RC.1.2.length c2)):=(Kp.set (S:=fun x=>x=Q) _ _ rfl).trans (Kp.set (S:=fun x=>x=Q) _ _ rfl) (fun x hx _=>hx)
    refine ⟨a1,c1,a2,c2,Hm ?_,Hm ((HSB.out.kp HT4.out.kp (fun _ b o e=>by have:=HBB.out.1 b o e;omega)).kp hk2 (fun _ b o e=>by have:=HBB.out.1 b o e;omega)),Hm ((HSH.out.kp HT4.out.kp (fun _ b o e=>by have:=HBB.out.2.1 b o e;omega)).kp hk2 (fun _ b o e=>by have:=HBB.out.2.1 b o e;omega)),Hm (HS1.out.kp hk2 (fun _ b o e=>by have:=HBD.out.1 b o e;omega)),Hm (HS2.out.kp hk2 (fun _ b o e=>by have:=HBD.out.2.1 b o e;omega)),Hm ⟨fun b o e=>by have:=HBD.out.1 b o e;omega,fun b o e=>by have:=HBD.out.2.1 b o e;omega,HBD.out.2.2⟩,Hm ((H4.out.set HQG.out.2.1 5 _).set HQG.out.2.1 9 _),Hm (HK4.out.trans (T:=fun x=>x=Q∨x=g) (hk2.mono (T:=fun x=>x=Q∨x=g) (fun x hx _=> .inl hx)) (fun x hx _=>hx))⟩
    have:=(HP4.out.set 5 (.slice a1 RC.1.1.length c1)).set 9 (.slice a2 RC.1.2.length c2)
    simpa only [List.setIfInBounds_toArray,List.set_cons_zero,List.set_cons_succ] using this
 case rest=>
 obtain ⟨aa,ac,ga,gc,HP4,HSB4,HSH4,HSA4,HSG4,HBD,HR4,HK4⟩:=hcut
 clear gv fv zv gx zx HP3 HSB HSH HR3 HK3 HTA HRC
 have HEX:=Hm (HEN.out g _ _ HR4.out)
 rw [show RC.2=R.2 from by rw [HRO.out],←HEE.out] at HEX
 have HBZ:=Hm (HB8W.out _ HK4.out)
 have HEZ:=Hm (HEW.out _ HK4.out)
 have HVV:Hid ((∀b o,ba=some ⟨b,o,none⟩→w.heap.size<b)∧(∀b o,ha=some ⟨b,o,none⟩→w.heap.size<b)∧(∀b o,aa=some ⟨b,o,none⟩→w.heap.size<b)∧(∀b o,ga=some ⟨b,o,none⟩→w.heap.size<b)):=Hm (by
  have h1:=HQX.out
  have h2:=HQG.out
  exact ⟨fun b o e=>by have:=HBB.out.1 b o e;omega,fun b o e=>by have:=HBB.out.2.1 b o e;omega,fun b o e=>by have:=HBD.out.1 b o e;omega,fun b o e=>by have:=HBD.out.2.1 b o e;omega⟩)
 have HNL:=Hm (And.intro HBB.out.2.2 HBD.out.2.2)
 clear HEN HB8W HEW HXW HBB HBD HQF
 by_cases hE0:EE=0
 ·subst hE0
  have HP:Hid (PP=R.1):=Hm (HPP.out.trans (if_pos rfl))
  go_wp2_with (go_at_call 32;refine HEX.out.mono ?_;rintro e w5 ⟨rfl,hb5⟩;have HB5:=Hm hb5;clear hb5;have HBZ5:=Hm (HBZ.out.ext HB5.out);have HX5:=Hm (HP4.out.ext HB5.out);have gX:=HX5.out.cell;have zX:=HX5.out.lt;have g8:=HBZ5.out.cell;have f8:=HBZ5.out.frozen;have z8:=HBZ5.out.lt)
  refine bodyPost_ret (res_rpart (Blk.ten HBZ5.out) rfl rfl) rfl ?_
  rw [HP.out,HRO.out]
  exact ⟨ba,aa,none,ha,ga,bc,ac,0,hc,gc,rfl,⟨(HSB4.out.ext HB5.out).kp Kp.ten (fun _ b o e=>by have:=HVV.out.1 b o e;omega),(HSA4.out.ext HB5.out).kp Kp.ten (fun _ b o e=>by have:=HVV.out.2.2.1 b o e;omega),Sl.nil0 _ _,(HSH4.out.ext HB5.out).kp Kp.ten (fun _ b o e=>by have:=HVV.out.2.1 b o e;omega),(HSG4.out.ext HB5.out).kp Kp.ten (fun _ b o e=>by have:=HVV.out.2.2.2 b o e;omega)⟩,(HEZ.out.trans HB5.out).ten (Nat.le_refl _),HNL.out.1,HNL.out.2⟩
 ·have hne:(EE !=0)=true:=by simpa using hE0
  have HP:Hid (PP=Pt.zero):=Hm (HPP.out.trans (if_neg hE0))
  clear hE0
  go_wp2_with (go_at_call 32;refine HEX.out.mono ?_;rintro e w5 ⟨rfl,hb5⟩;have HB5:=Hm hb5;clear hb5;have HBZ5:=Hm (HBZ.out.ext HB5.out);have g8:=HBZ5.out.cell;have f8:=HBZ5.out.frozen;have z8:=HBZ5.out.lt)
  refine bodyPost_ret (res_rpart (Blk.ten HBZ5.out) rfl rfl) rfl ?_
  rw [HP.out]
  exact ⟨none,none,none,none,none,0,0,0,0,0,rfl,PartHasR.zero _,(HEZ.out.trans HB5.out).ten (Nat.le_refl _),fun _=>rfl,fun _=>rfl⟩
theorem rtake15_any (kind ver:Int) (v:Value) (l:List Int) (ps:List RR) (a:Option Addr) (cap:Nat) (w:World) (hl:AB w v l) (hlen:l.length≤1000000) (hb:isB l) (hU:RL w (.slice a ps.length cap) ps) (hn:ps.length≤1000) (hc:RCat ps):
 Calls Tryz.prog 8 #[.slice a ps.length cap, .int .u8 kind,v, .int .u8 ver] w (RTakeQ (takeEP (ps.map RR.r) kind l ver) (takeEE (ps.map RR.r) kind l ver) w):=by
 have HBAD:Hid (∀E,E≠0→takeEE (ps.map RR.r) kind l ver=E→takeEP (ps.map RR.r) kind l ver=Pt.zero):=Hm (fun E h0 hE=>by unfold takeEP;rw [hE,if_neg h0])
 by_cases hk:4≤kind∧kind≤7
 case neg=>
  have HE:Hid (takeEE (ps.map RR.r) kind l ver=7):=Hm (if_pos (by omega))
  have hor:kind<4∨(¬ kind<4∧7<kind):=by omega
  clear hk hl hb hU hc
  rcases hor with h4|⟨h4,h7⟩
  all_goals
   go_enter Tryz.func8,Tryz.ntmps8
   go_wp2
   refine bodyPost_ret (v:= .tuple #[.agg #[.int .u8 0, .int .u32 0, .int .u32 0, .int .u8 0, .slice none 0 0, .slice none 0 0, .slice none 0 0, .int .u8 0, .slice none 0 0, .slice none 0 0], .int .i64 7]) (res_rpart (Blk.new w _ _) rfl rfl) rfl ?_
   rw [HBAD.out 7 (by decide) HE.out,HE.out]
   exact ⟨none,none,none,none,none,0,0,0,0,0,rfl,PartHasR.zero _,by exact eX,fun _=>rfl,fun _=>rfl⟩
 by_cases hv:ver=1∨ver=2
 case neg=>
  have HE:Hid (takeEE (ps.map RR.r) kind l ver=18):=Hm (by unfold takeEE;rw [if_neg (by omega),if_neg hv])
  have h4: ¬ kind<4:=by omega
  have h7: ¬ 7<kind:=by omega
  have h1:(ver !=1)=true:=by rw [bne_iff_ne];omega
  have h2:(ver !=2)=true:=by rw [bne_iff_ne];omega
  clear hk hv hl hb hU hc
  go_enter Tryz.func8,Tryz.ntmps8
  go_wp2
  refine bodyPost_ret (v:= .tuple #[.agg #[.int .u8 0, .int .u32 0, .int .u32 0, .int .u8 0, .slice none 0 0, .slice none 0 0, .slice none 0 0, .int .u8 0, .slice none 0 0, .slice none 0 0], .int .i64 18]) (res_rpart (Blk.new w _ _) rfl rfl) rfl ?_
  rw [HBAD.out 18 (by decide) HE.out,HE.out]
  exact ⟨none,none,none,none,none,0,0,0,0,0,rfl,PartHasR.zero _,by exact eX,fun _=>rfl,fun _=>rfl⟩
 by_cases h7:kind=7
 ·subst h7
  exact rtake7_any ver v l _ (ps.map RR.r) w hl hlen hb hv
 ·exact rtake46_any kind ver v l ps a cap w hl hlen hb hv (by omega) hU hn hc
def RcAt (W:World) (g:Nat) (ks:List K):Prop:=∃cs:Array Value,Blk W g cs 127∧ks.length*6≤cs.size∧∀i (hi:i<ks.length),∀j,j<6→cs[i*6+j]? =(ks[i].rc)[j]?
section
variable {W W' : World} {g : Nat} {ks : List K}
theorem RcAt.lt (h:RcAt W g ks):g<W.heap.size:=by obtain ⟨cs,hb,_⟩:=h;exact hb.lt
theorem RcAt.ext (h:RcAt W g ks) (he:Ext W W'):RcAt W' g ks:=by obtain ⟨cs,hb,hr⟩:=h;exact ⟨cs,hb.ext he,hr⟩
theorem RcAt.frozen (h:RcAt W g ks) (o:Nat):W.frozen? ⟨g,o,none⟩=false:=by obtain ⟨cs,hb,_⟩:=h;exact hb.frozen o
theorem RcAt.text (h:RcAt W g ks) {i:Nat} (hi:i<ks.length):W.cell? ⟨g,i*6+5,none⟩=some (.string ks[i].v.s):=by
 obtain ⟨cs,hb,_,hx⟩:=h
 exact (hb.cell _).trans (hx i hi 5 (by omega))
theorem RcAt.sl (h:RcAt W g ks) (cap:Nat):Sl W (.slice (some ⟨g,0,none⟩) ks.length cap) 6 (ks.map K.rc):=by
 obtain ⟨cs,hb,_,hx⟩:=h
 refine ⟨_,cap,by rw [List.length_map], .inr ⟨g,0,rfl,hb.lt,fun i hi j hj=> ?_⟩⟩
 rw [List.length_map] at hi
 rw [getD_map K.rc ks hi,←hx i hi j hj,Nat.zero_add]
 exact hb.cell _
theorem rflatF_len (l:List K):(l.map K.rc).flatten.length=l.length*6:=by
 have:=flat_length 6 (l.map K.rc) (fun xs hxs=>by simp at hxs;obtain ⟨c,_,rfl⟩:=hxs;rfl)
 rwa [List.length_map] at this
theorem RcAt.of_owns {base n cap:Nat} (h:W.ownsRow base 127 6 (.slice (some ⟨g,0,none⟩) n cap) n (ks.map K.rc).flatten) (hn:ks.length=n):RcAt W g ks:=by
 obtain ⟨h1,h2⟩:=h
 rcases h2 with ⟨h3,_⟩|⟨g',cap',cur,hv,hg,hh,hnc,hcap,hsz,htake⟩
 ·cases h3
 ·simp only [Value.slice.injEq,Option.some.injEq,Addr.mk.injEq] at hv
  obtain ⟨⟨rfl, -, -⟩, -,rfl⟩:=hv
  have hct:ks.length*6≤cur.size:=by
   have:=congrArg List.length htake
   rw [List.length_take,rflatF_len] at this
   simp at this
   omega
  refine ⟨cur,hh,hct,fun i hi j hj=> ?_⟩
  have:=flat_get 6 (ks.map K.rc) (fun xs hxs=>by simp at hxs;obtain ⟨c,_,rfl⟩:=hxs;rfl) i (by simpa using hi) j hj
  rw [getD_map K.rc ks hi] at this
  rw [←this,←htake,List.getElem?_take,if_pos (by rw [←hn];omega)]
  simp
theorem RcAt.setText (h:RcAt W g ks) {i:Nat} (hi:i<ks.length) (s:ByteArray):RcAt (W.setCell ⟨g,i*6+5,none⟩ (.string s)) g (Go.Proofs.YtodbhliidbclcaaGreat.setText ks i s):=by
 obtain ⟨cs,hb,hs,hx⟩:=h
 refine ⟨_,hb.set _ _,by rw [setText_len];simpa using hs,fun q hq j hj=> ?_⟩
 have hq2:q<ks.length:=by rwa [setText_len] at hq
 have e1:(Go.Proofs.YtodbhliidbclcaaGreat.setText ks i s)[q]'hq=(ks.set i ⟨ks[i].k, { ks[i].v with s:=s }⟩)[q]'(by simpa using hq2):=by
  congr 1
  unfold Go.Proofs.YtodbhliidbclcaaGreat.setText;rw [dif_pos hi]
 rw [e1,Array.getElem?_setIfInBounds]
 by_cases e:q=i
 ·subst e
  rw [List.getElem_set_self]
  have hx:=hx q hq2 j hj
  have:j=0∨j=1∨j=2∨j=3∨j=4∨j=5:=by omega
  rcases this with rfl|rfl|rfl|rfl|rfl|rfl
  ·rw [if_neg (by omega),hx];rfl
  ·rw [if_neg (by omega),hx];rfl
  ·rw [if_neg (by omega),hx];rfl
  ·rw [if_neg (by omega),hx];rfl
  ·rw [if_neg (by omega),hx];rfl
  ·rw [if_pos rfl,if_pos (by omega)];rfl
 ·rw [List.getElem_set_ne (Ne.symm e),if_neg (by omega)]
  exact hx q hq2 j hj
end
theorem news_rc {w:World} {b o:Nat} {l:List K} (h:∀i,i<l.length→∀j,j<6→w.cell? ⟨b,o+i*6+j,none⟩=((l.map K.rc).getD i [])[j]?):∀j u,((l.map K.rc).flatten)[j]? =some u→w.cell? ((⟨b,o,none⟩:Addr).add j)=some u:=by
 intro j u hj
 have hjl:j<l.length*6:=by
  rcases Nat.lt_or_ge j (l.length*6) with h|h
  ·exact h
  ·rw [List.getElem?_eq_none (by rw [rflatF_len];exact h)] at hj;cases hj
 have hplain:(⟨b,o,none⟩:Addr).add j=⟨b,o+j,none⟩:=by unfold Addr.add;split<;>simp_all
 have hi:j / 6<l.length:=by omega
 have hq:=flat_get 6 (l.map K.rc) (fun xs hxs=>by simp at hxs;obtain ⟨c,_,rfl⟩:=hxs;rfl) (j / 6) (by simpa using hi) (j%6) (Nat.mod_lt _ (by decide))
 have hm:j / 6*6+j%6=j:=by omega
 rw [hm] at hq
 rw [hplain,←hj,hq,←h (j / 6) hi (j%6) (Nat.mod_lt _ (by decide)),Nat.add_assoc,hm]
theorem app_rc {w:World} {ops:Array Oper} {rest:List Oper} {o:Oper} {a:Act} {Q:Exit→Act→World→Prop} (hgd:o.guard=none) (s x:Operand)
 (ho:o.op= .call { callee:= .builtin .append,args:= #[s,x],argTypes:= #[47,47] })
 (base:Nat) (v:Value) (hs:a.eval s=v) (hown:w.ownsRow base 127 6 v 0 []) (l:List K) (au:Option Addr) (cu:Nat) (hx:a.eval x= .slice au l.length cu) (hu:Sl w (.slice au l.length cu) 6 (l.map K.rc)) (hnil:au=none→cu=0)
 (hlen:l.length≤1000) (hbase:base≤w.heap.size)
 (h:∀v' w',w'.ownsRow base 127 6 v' l.length ((l.map K.rc).flatten)→w.grownBy w' v.ownBlock→wpList Tryz.prog ops Q rest (a.put o.dst v') w'):wpList Tryz.prog ops Q (o::rest) a w:=by
 obtain ⟨i0,hi,hz0,hz1,hz2⟩:=info_parts Tryz.infoCellR
 cases au with
 |none=>
  have h0:l= []:=by
   obtain ⟨a,c,hv,h⟩:=hu
   simp only [Value.slice.injEq] at hv
   rcases h with h|⟨b,o,ha,_⟩
   ·simpa using h
   ·rw [←hv.1] at ha;cases ha
  subst h0
  obtain rfl:=hnil rfl
  refine Go.wpList_append_own_none hgd s x 47 ho base 127 i0 6 Tryz.underlying47 hi v _ _ hs hown hx ?_
  exact h v w hown ⟨rfl,rfl,rfl,Nat.le_refl _,fun _ _ _=>rfl⟩
 |some ad=>
  have hnews:∀j u,((l.map K.rc).flatten)[j]? =some u→w.cell? (ad.add j)=some u:=by
   obtain ⟨a,c,hv,h⟩:=hu
   simp only [Value.slice.injEq] at hv
   obtain ⟨rfl, -, -⟩:=hv
   rcases h with h|⟨b,o,ha,hb,hc⟩
   ·have h0:l= []:=by simpa using h
    subst h0;intro j u hj;simp at hj
   ·cases ha
    exact news_rc fun i hi j hj=>hc i (by simpa using hi) j hj
  exact wpList_append_own w hgd s x 47 ho base 127 i0 _ 6 56 Tryz.underlying47 hi hz0 hz1 hz2 rfl (by decide) v 0 [] hs hown ad l.length cu ((l.map K.rc).flatten) hx (rflatF_len l) hnews
   (by intro u hu;rw [List.mem_flatten] at hu;obtain ⟨xs,hxs,hu⟩:=hu;rw [List.mem_map] at hxs;obtain ⟨c,_,rfl⟩:=hxs;simp [K.rc] at hu;rcases hu with rfl|rfl|rfl|rfl|rfl|rfl<;>rfl)
   (by unfold maxLen;omega) (by omega) hbase (fun v' w' h1 h2 _=>h v' w' (by simpa using h1) h2)
def RFillPost (l:List K) (hs:List Ho) (ts:List ByteArray) (w:World) (e:Ending) (w' :World):Prop:=
 ∃a' cap',e= .returned (.tuple #[.slice a' (fillW l hs ts).length cap', .int .i64 (fillE l hs ts)])∧Sl w' (.slice a' (fillW l hs ts).length cap') 6 ((fillW l hs ts).map K.rc)∧Ext w w'
def RFillPostF (l:List K) (hs:List Ho) (ts:List ByteArray) (w:World) (e:Ending) (w' :World):Prop:=
 ∃a' cap',e= .returned (.tuple #[.slice a' (fillW l hs ts).length cap', .int .i64 (fillE l hs ts)])∧Sl w' (.slice a' (fillW l hs ts).length cap') 6 ((fillW l hs ts).map K.rc)∧Ext w w'∧(fillW l hs ts≠ []→∀b o,a' =some ⟨b,o,none⟩→w.heap.size≤b)
theorem RFillPost.bad {l:List K} {hs:List Ho} {ts:List ByteArray} {w w' :World} {E:Int} (h:fillE l hs ts=E) (h0:E≠0) (hE:Ext w w'):RFillPostF l hs ts w (.returned (.tuple #[.slice none 0 0, .int .i64 E])) w' :=by
 have:fillW l hs ts= []:=by unfold fillW;rw [if_neg (by rw [h];exact h0)]
 unfold RFillPostF
 rw [this,h]
 exact ⟨none,0,rfl,⟨none,0,rfl, .inl rfl⟩,hE,fun h=>absurd rfl h⟩
theorem RFillPost.ok {l:List K} {hs:List Ho} {ts:List ByteArray} {w w' :World} {m:List K} {a:Option Addr} {n cap:Nat} (h:fillE l hs ts=0) (hm:fillUp l hs ts hs.length=m) (hn:n=m.length) (hl:Sl w' (.slice a n cap) 6 (m.map K.rc)) (hE:Ext w w') (hF:m≠ []→∀b o,a=some ⟨b,o,none⟩→w.heap.size≤b):
 RFillPostF l hs ts w (.returned (.tuple #[.slice a n cap, .int .i64 0])) w' :=by
 have:fillW l hs ts=m:=by unfold fillW;rw [if_pos h,hm]
 unfold RFillPostF
 subst hn
 rw [this,h]
 exact ⟨a,cap,rfl,hl,hE,hF⟩
theorem rfill_anyF (l:List K) (hs:List Ho) (ts:List ByteArray) (a ah at' :Option Addr) (cap ch ct:Nat) (w:World) (hl:Sl w (.slice a l.length cap) 6 (l.map K.rc)) (hnil:a=none→cap=0) (hh:Sl w (.slice ah hs.length ch) 2 (hs.map Ho.cells)) (ht:Sl w (.slice at' ts.length ct) 1 (ts.map strC))
 (hlen:l.length≤1000) (hlen2:hs.length≤1000) (_hlen3:ts.length≤1000) (hsz:∀t∈ts,t.size≤9223372036854775807):
 Calls Tryz.prog 40 #[.slice a l.length cap, .slice ah hs.length ch, .slice at' ts.length ct] w (RFillPostF l hs ts w):=by
 have HL:=Hm hl
 have HH:=Hm hh
 have HT:=Hm ht
 have HSZ:=Hm hsz
 clear hl hh ht hsz
 by_cases hn:hs.length=ts.length
 case neg=>
  have hn' :(((hs.length:Nat):Int) !=((ts.length:Nat):Int))=true:=by simp;omega
  have HR:=Hm (fillE_len (l:=l) hn)
  clear hn
  go_enter Tryz.func40,Tryz.ntmps40
  go_wp2
  go_ret2
  exact RFillPost.bad HR.out (by decide) (by exact eX)
 have hn' :(((hs.length:Nat):Int) !=((ts.length:Nat):Int))=false:=by simp;omega
 have HN:=Hm hn
 clear hn
 go_enter Tryz.func40,Tryz.ntmps40
 go_wp2
 go_loopw [8] (fun i wr=>∃k:Nat,k≤hs.length∧i= .int .i64 k∧Hid (∀j,j<k→holeBad l.length hs j=0)∧Hid (Ext w wr)) (fun i _=>hs.length - (intOf i).toNat)
 case atStart=>exact ⟨0,Nat.zero_le _,rfl,Hm (fun j h=>by omega),Hm (Ext.refl _)⟩
 case round=>
  obtain ⟨k,hk,rfl,hrel,hE⟩:=hrel
  by_cases hlt:k<hs.length
  ·obtain ⟨b,o,rfl,hb,hx⟩:=HH.out.at_ (i:=k) (by simpa using hlt)
   obtain ⟨f0,f1⟩:=Ho.at_ hlt hx hb hE.out
   have hbw:b<wr.heap.size:=Nat.lt_of_lt_of_le hb hE.out.size
   clear hx
   by_cases hbad:hs[k].c<0∨(l.length:Int)≤hs[k].c
   ·have HR:=Hm (fillE_hole HN.out hlt hbad hrel.out)
    obtain ⟨hk',hke⟩:∃hk',hk' =hs[k]:=⟨_,rfl⟩
    rw [←hke] at f0 f1 hbad
    clear hke
    go_wp2
    all_goals
     go_ret2
     exact RFillPost.bad HR.out (by decide) hE.out
   ·have HZ:=Hm (show holeBad l.length hs k=0 by unfold holeBad;rw [dif_pos hlt,if_neg hbad])
    obtain ⟨j,hj⟩:∃j:Nat,hs[k].c=(j:Int):=⟨hs[k].c.toNat,by omega⟩
    rw [hj] at f0 hbad
    have hjl:j<l.length:=by omega
    clear hbad hj
    go_wp2
    go_roundw
    case rel=>exact ⟨k+1,by omega,by go_num,Hm (fun j hj=>by
     by_cases e:j=k
     ·subst e;exact HZ.out
     ·exact hrel.out j (by omega)),hE⟩
    case measure=>simp [intOf];omega
  ·obtain rfl:k=hs.length:=by omega
   have HA:=hrel
   have HW1:=hE
   clear hrel hE
   go_wp2_with (at_builtin;refine app_rc rfl _ _ rfl w.heap.size (.slice (some ⟨wr.heap.size,0,none⟩) 0 0) rfl ?c0 l a cap rfl (HL.out.ext (HW1.out.alloc _)) hnil hlen ?c1 ?_)
   case c0=>exact ⟨rfl, .inr ⟨_,0, #[],rfl,HW1.out.size,Blk.new wr #[] _,Nat.le_refl _,Nat.zero_le _,rfl,rfl⟩⟩
   case c1=>have:=HW1.out.size;simp;omega
   intro v' w2 hown hgrow
   have HE2:Hid (Ext w w2):=Hm (Below.grown (HW1.out.alloc _) hgrow (by have:=HW1.out.size;rw [World.size_alloc];omega) (fun g hg=>by simp [Value.ownBlock] at hg;subst hg;exact HW1.out.size))
   have HO:=Hm hown
   obtain ⟨a',c',rfl⟩:=owns_shape hown
   clear hown hgrow
   by_cases h0:l.length=0
   ·have hh0:hs.length=0:=by
     rcases Nat.eq_zero_or_pos hs.length with h|h
     ·exact h
     ·have:=hole_ok h (HA.out 0 h);omega
    have HF:=Hm (fillE_ok HN.out HA.out (fun j hj=>by omega))
    go_wp2
    go_loopw [10] (fun i w3=>i= .int .i64 0∧Hid (Ext w2 w3)) (fun _ _=>0)
    case atStart=>exact ⟨rfl,Hm (Ext.refl _)⟩
    case round=>
     obtain ⟨rfl,hE⟩:=hrel
     go_wp2
     go_ret2
     have hl0:l= []:=List.length_eq_zero_iff.1 h0
     have hs0:hs= []:=List.length_eq_zero_iff.1 hh0
     subst hl0 hs0
     exact RFillPost.ok HF.out rfl rfl ⟨a',c',rfl, .inl rfl⟩ (HE2.out.trans hE.out) (fun h=>absurd rfl h)
   obtain ⟨g,rfl,hcap,hgw⟩:∃g,a' =some ⟨g,0,none⟩∧l.length≤c'∧w.heap.size≤g:=by
    rcases HO.out.2 with ⟨-,h1⟩|⟨g,cap',cur,hv,hg, -,hn, -⟩
    ·exact absurd h1 h0
    ·simp only [Value.slice.injEq] at hv
     exact ⟨g,hv.1,owns_cap HO.out,hg⟩
   have HR0:=Hm (RcAt.of_owns HO.out rfl)
   clear HO HW1
   go_wp2
   rename World=>wq
   go_loopw [10] (fun i wr=>∃k:Nat,k≤hs.length∧i= .int .i64 k∧Hid (∀j,j<k→sizeBad hs ts j=0)∧Hid (RcAt wr g (fillUp l hs ts k))∧Hid (Ext w wr)) (fun i _=>hs.length - (intOf i).toNat)
   case atStart=>exact ⟨0,Nat.zero_le _,rfl,Hm (fun j h=>by omega),HR0,HE2⟩
   case round=>
    obtain ⟨k,hk,rfl,hrel,hr,hE⟩:=hrel
    by_cases hlt:k<hs.length
    ·have hlt2:k<ts.length:=by have:=HN.out;omega
     obtain ⟨b,o,rfl,hb,hx⟩:=HH.out.at_ (i:=k) (by simpa using hlt)
     obtain ⟨f0,f1⟩:=Ho.at_ hlt hx hb hE.out
     obtain ⟨b2,o2,rfl,hb2,hx2⟩:=HT.out.at_ (i:=k) (by simpa using hlt2)
     have p0:=str_at hlt2 hx2 hb2 hE.out
     have hbw:b<wr.heap.size:=Nat.lt_of_lt_of_le hb hE.out.size
     have hbw2:b2<wr.heap.size:=Nat.lt_of_lt_of_le hb2 hE.out.size
     have hsz:=HSZ.out _ (List.getElem_mem hlt2)
     have hok:=hole_ok hlt (HA.out k hlt)
     have HS:=Hm (fillUp_succ (l:=l) hlt hlt2)
     have HB:=Hm (fun (h:(ts[k].size:Int)≠hs[k].n)=>fillE_size (l:=l) HN.out HA.out hlt hlt2 h hrel.out)
     have HZ:=Hm (fun (h: ¬ (ts[k].size:Int)≠hs[k].n)=>show sizeBad hs ts k=0 by unfold sizeBad;rw [dif_pos ⟨hlt,hlt2⟩,if_neg h])
     obtain ⟨j,hj⟩:∃j:Nat,hs[k].c=(j:Int):=⟨hs[k].c.toNat,by omega⟩
     rw [hj] at f0 hok HS
     rw [Int.toNat_natCast] at HS
     have hjl:j<l.length:=by omega
     have hgl:=hr.out.lt
     have hgf:=hr.out.frozen
     have HJ:=Hm (show j<(fillUp l hs ts k).length by rw [fillUp_len];exact hjl)
     obtain ⟨old,hg5⟩:∃old,wr.cell? ⟨g,j*6+5,none⟩=some (.string old):=⟨_,hr.out.text HJ.out⟩
     obtain ⟨t,hte⟩:∃t,t=ts[k]:=⟨_,rfl⟩
     obtain ⟨q,hqe⟩:∃q,q=hs[k].n:=⟨_,rfl⟩
     rw [←hte] at p0 hsz HS HB HZ
     rw [←hqe] at f1 HB HZ
     clear hx hx2 hte hqe hj hok
     by_cases hbad:(t.size:Int)≠q
     ·have HR:=Hm (HB.out hbad)
      have hb' :(((t.size:Nat):Int) !=q)=true:=by simpa using hbad
      clear HB HZ hbad
      go_wp2
      go_region_held3 (fun w' =>Ext (wr) w'∧(∀b o,b<(wr).heap.size→w'.cell? ⟨b,o,none⟩=(wr).cell? ⟨b,o,none⟩)∧(∀b o,b<(wr).heap.size→w'.frozen? ⟨b,o,none⟩=(wr).frozen? ⟨b,o,none⟩)) ((exact held_of (by exact eX))) (fail)
      go_wp2
      go_ret2
      exact RFillPost.bad HR.out (by decide) (hE.out.trans (by exact eX))
     ·have HR:=Hm (HZ.out hbad)
      have hb' :(((t.size:Nat):Int) !=q)=false:=by simpa using hbad
      clear HB HZ hbad
      go_wp2
      go_region_held3 (fun w' =>Ext (wr) w'∧(∀b o,b<(wr).heap.size→w'.cell? ⟨b,o,none⟩=(wr).cell? ⟨b,o,none⟩)∧(∀b o,b<(wr).heap.size→w'.frozen? ⟨b,o,none⟩=(wr).frozen? ⟨b,o,none⟩)) ((exact held_of (by exact eX))) (fail)
      go_wp2
      refine wp_region_head 10 (fun w' =>Ext (wr) w'∧(∀b o,b<(wr).heap.size→w'.cell? ⟨b,o,none⟩=(wr).cell? ⟨b,o,none⟩)∧(∀b o,b<(wr).heap.size→w'.frozen? ⟨b,o,none⟩=(wr).frozen? ⟨b,o,none⟩)) (by kernel_rfl) (by decide) ?_
      have hA0:Hid ((fun w' =>Ext (wr) w'∧(∀b o,b<(wr).heap.size→w'.cell? ⟨b,o,none⟩=(wr).cell? ⟨b,o,none⟩)∧(∀b o,b<(wr).heap.size→w'.frozen? ⟨b,o,none⟩=(wr).frozen? ⟨b,o,none⟩)) wr.drew.drew):=held_of (by exact eX)
      (refine wpHd_take (i:=0) (v:= ?_) rfl (by kernel_rfl) (by kernel_rfl) (by kernel_rfl) (fun _ _ _ h=>h) (Or.inl ⟨by rfl, ?_⟩) hA0.out ?_;rotate_left 1; · (intro w' hS';(obtain ⟨hEs',hcs',hfs'⟩:=hS');go_simp;try with_reducible rfl))
      (refine wpHd_take (i:=1) (v:= ?_) rfl (by kernel_rfl) (by kernel_rfl) (by kernel_rfl) (fun _ _ _ h=>h) (Or.inl ⟨by rfl, ?_⟩) hA0.out ?_;rotate_left 1; · (intro w' hS';(obtain ⟨hEs',hcs',hfs'⟩:=hS');go_simp;try with_reducible rfl))
      (refine wpHd_take (i:=2) (v:= ?_) rfl (by kernel_rfl) (by kernel_rfl) (by kernel_rfl) (fun _ _ _ h=>h) (Or.inl ⟨by rfl, ?_⟩) hA0.out ?_;rotate_left 1; · (intro w' hS';(obtain ⟨hEs',hcs',hfs'⟩:=hS');go_simp;try with_reducible rfl))
      (refine wpHd_take (i:=3) (v:= ?_) rfl (by kernel_rfl) (by kernel_rfl) (by kernel_rfl) (fun _ _ _ h=>h) (Or.inl ⟨by rfl, ?_⟩) hA0.out ?_;rotate_left 1; · (intro w' hS';(obtain ⟨hEs',hcs',hfs'⟩:=hS');go_simp;try with_reducible rfl))
      (refine wpHd_take (i:=4) (v:= ?_) rfl (by kernel_rfl) (by kernel_rfl) (by kernel_rfl) (fun _ _ _ h=>h) (Or.inl ⟨by rfl, ?_⟩) hA0.out ?_;rotate_left 1; · (intro w' hS';(obtain ⟨hEs',hcs',hfs'⟩:=hS');go_simp;try with_reducible rfl))
      (refine wpHd_take (i:=5) (v:= ?_) rfl (by kernel_rfl) (by kernel_rfl) (by kernel_rfl) (fun _ _ _ h=>h) (Or.inl ⟨by rfl, ?_⟩) hA0.out ?_;rotate_left 1; · (intro w' hS';(obtain ⟨hEs',hcs',hfs'⟩:=hS');go_simp;try with_reducible rfl))
      (refine wpHd_take (i:=6) (v:= ?_) rfl (by kernel_rfl) (by kernel_rfl) (by kernel_rfl) (fun _ _ _ h=>h) (Or.inl ⟨by rfl, ?_⟩) hA0.out ?_;rotate_left 1; · (intro w' hS';(obtain ⟨hEs',hcs',hfs'⟩:=hS');go_simp;try with_reducible rfl))
      (refine wpHd_take (i:=7) (v:= ?_) rfl (by kernel_rfl) (by kernel_rfl) (by kernel_rfl) (fun _ _ _ h=>h) (Or.inl ⟨by rfl, ?_⟩) hA0.out ?_;rotate_left 1; · (intro w' hS';(obtain ⟨hEs',hcs',hfs'⟩:=hS');go_simp;try with_reducible rfl))
      (refine wpHd_take (i:=8) (v:= ?_) rfl (by kernel_rfl) (by kernel_rfl) (by kernel_rfl) (fun _ _ _ h=>h) (Or.inl ⟨by rfl, ?_⟩) hA0.out ?_;rotate_left 1; · (intro w' hS';(obtain ⟨hEs',hcs',hfs'⟩:=hS');go_simp;try with_reducible rfl))
      (refine wpHd_take (i:=9) (v:= ?_) rfl (by kernel_rfl) (by kernel_rfl) (by kernel_rfl) (fun _ _ _ h=>h) (Or.inl ⟨by rfl, ?_⟩) hA0.out ?_;rotate_left 1; · (intro w' hS';(obtain ⟨hEs',hcs',hfs'⟩:=hS');go_simp;try with_reducible rfl))
      refine wpHd_tail (by kernel_rfl) ?_
      simp only [List.drop_succ_cons,List.drop_zero]
      go_wp2
      go_roundw
      case rel=>exact ⟨k+1,by omega,by go_num,Hm (fun i hi=>by
       by_cases e:i=k
       ·subst e;exact HR.out
       ·exact hrel.out i (by omega)),Hm (by rw [HS.out];exact ((RcAt.setText hr.out HJ.out t).ext ((Ext.refl _).drew)).ext ((Ext.refl _).drew)),Hm (by have hE:=hE.out;exact eX)⟩
      case measure=>simp [intOf];omega
    ·have hkk:k=hs.length:=by omega
     subst hkk
     have HF:=Hm (fillE_ok HN.out HA.out hrel.out)
     go_wp2
     go_ret2
     have h1:=hr.out.sl c'
     rw [fillUp_len] at h1
     exact RFillPost.ok HF.out rfl (fillUp_len _ _ _ _).symm h1 hE.out (fun _ b o e=>by cases e;exact hgw)
structure EL.owned (N:Nat) (W:World) (y:EL):Prop where
 b:W.ownsRow N 157 5 (.slice y.ba y.e.b.length y.bc) y.e.b.length ((y.e.b.map K.pc).flatten)
 a:W.ownsRow N 157 5 (.slice y.aa y.e.a.length y.ac) y.e.a.length ((y.e.a.map K.pc).flatten)
 r:W.ownsRow N 34 2 (.slice y.ra y.e.rs.length y.rc) y.e.rs.length ((y.e.rs.map Rf.cells).flatten)
theorem ecopy_any (x:EL) (w:World) (hx:x.at 5 K.pc w) (hs:x.e.small):
 Calls Tryz.prog 37 #[x.agg] w fun e w' =>∃y:EL,e= .returned y.agg∧y.e=x.e∧y.owned w.heap.size w'∧Ext w w' :=by
 obtain ⟨⟨k1,ao1,av1,old1,b1,a1,r1,fl1⟩,ba1,bc1,aa1,ac1,ra1,rc1⟩:=x
 have HCB:=Hm (fun W (h:Ext w W)=>clonek_any b1 ba1 bc1 W (hx.b.ext h) hs.b)
 have HCA:=Hm (fun W (h:Ext w W)=>clonek_any a1 aa1 ac1 W (hx.a.ext h) hs.a)
 have HCR:=Hm (fun W (h:Ext w W)=>clonef_any r1 ra1 rc1 W (hx.r.ext h) hs.r)
 unfold EL.agg
 simp only
 clear hx hs
 go_enter Tryz.func37,Tryz.ntmps37
 go_upto_region 1 with (fail)
 have hV:Blk ((w.alloc (.cells #[.int .u8 k1, .int .u32 ao1, .int .u32 av1, .int .u8 old1, .slice ba1 b1.length bc1, .slice aa1 a1.length ac1, .slice ra1 r1.length rc1, .int .u8 fl1] 39)).alloc (.cells #[.int .u8 0, .int .u32 0, .int .u32 0, .int .u8 0, .slice none 0 0, .slice none 0 0, .slice none 0 0, .int .u8 0] 39)) w.heap.size #[.int .u8 k1, .int .u32 ao1, .int .u32 av1, .int .u8 old1, .slice ba1 b1.length bc1, .slice aa1 a1.length ac1, .slice ra1 r1.length rc1, .int .u8 fl1] 39:=(Blk.new w #[.int .u8 k1, .int .u32 ao1, .int .u32 av1, .int .u8 old1, .slice ba1 b1.length bc1, .slice aa1 a1.length ac1, .slice ra1 r1.length rc1, .int .u8 fl1] 39).alloc _
 have hZ:Blk ((w.alloc (.cells #[.int .u8 k1, .int .u32 ao1, .int .u32 av1, .int .u8 old1, .slice ba1 b1.length bc1, .slice aa1 a1.length ac1, .slice ra1 r1.length rc1, .int .u8 fl1] 39)).alloc (.cells #[.int .u8 0, .int .u32 0, .int .u32 0, .int .u8 0, .slice none 0 0, .slice none 0 0, .slice none 0 0, .int .u8 0] 39)) (w.heap.size+1) #[.int .u8 0, .int .u32 0, .int .u32 0, .int .u8 0, .slice none 0 0, .slice none 0 0, .slice none 0 0, .int .u8 0] 39:=Blk.new' (w:=w.alloc (.cells #[.int .u8 k1, .int .u32 ao1, .int .u32 av1, .int .u8 old1, .slice ba1 b1.length bc1, .slice aa1 a1.length ac1, .slice ra1 r1.length rc1, .int .u8 fl1] 39)) _ _ (by simp)
 have hE:Ext w ((w.alloc (.cells #[.int .u8 k1, .int .u32 ao1, .int .u32 av1, .int .u8 old1, .slice ba1 b1.length bc1, .slice aa1 a1.length ac1, .slice ra1 r1.length rc1, .int .u8 fl1] 39)).alloc (.cells #[.int .u8 0, .int .u32 0, .int .u32 0, .int .u8 0, .slice none 0 0, .slice none 0 0, .slice none 0 0, .int .u8 0] 39)):=by exact eX
 obtain ⟨w0,hw0⟩:∃w0,w0=(w.alloc (.cells #[.int .u8 k1, .int .u32 ao1, .int .u32 av1, .int .u8 old1, .slice ba1 b1.length bc1, .slice aa1 a1.length ac1, .slice ra1 r1.length rc1, .int .u8 fl1] 39)).alloc (.cells #[.int .u8 0, .int .u32 0, .int .u32 0, .int .u8 0, .slice none 0 0, .slice none 0 0, .slice none 0 0, .int .u8 0] 39):=⟨_,rfl⟩
 have hz0:w0.heap.size=w.heap.size+1+1:=by rw [hw0];simp
 rw [←hw0] at hV hZ hE⊢
 have HV:=Hm hV
 have HZ:=Hm hZ
 have HE:=Hm hE
 have HZ0:=Hm hz0
 clear hw0 hV hZ hE hz0
 have gv:=HV.out.cell
 have gvf:=HV.out.frozen
 have zv:=HV.out.lt
 have hA0:Hid ((fun w' =>Ext (w0) w'∧(∀b o,b<(w0).heap.size→w'.cell? ⟨b,o,none⟩=(w0).cell? ⟨b,o,none⟩)∧(∀b o,b<(w0).heap.size→w'.frozen? ⟨b,o,none⟩=(w0).frozen? ⟨b,o,none⟩)) w0.drew):=held_of (by exact eX)
 refine wp_region_head 10 (fun w' =>Ext (w0) w'∧(∀b o,b<(w0).heap.size→w'.cell? ⟨b,o,none⟩=(w0).cell? ⟨b,o,none⟩)∧(∀b o,b<(w0).heap.size→w'.frozen? ⟨b,o,none⟩=(w0).frozen? ⟨b,o,none⟩)) (by kernel_rfl) (by decide) ?_
 (refine wpHd_take (i:=0) (v:= ?_) rfl (by kernel_rfl) (by kernel_rfl) (by kernel_rfl) (fun _ _ _ h=>h) (Or.inl ⟨by rfl, ?_⟩) hA0.out ?_;rotate_left 1; · (intro w' hS';(obtain ⟨hEs',hcs',hfs'⟩:=hS');go_simp;try with_reducible rfl))
 (refine wpHd_take (i:=1) (v:= ?_) rfl (by kernel_rfl) (by kernel_rfl) (by kernel_rfl) (fun _ _ _ h=>h) (Or.inl ⟨by rfl, ?_⟩) hA0.out ?_;rotate_left 1; · (intro w' hS';(obtain ⟨hEs',hcs',hfs'⟩:=hS');go_simp;try with_reducible rfl))
 (refine wpHd_take (i:=3) (v:= ?_) rfl (by kernel_rfl) (by kernel_rfl) (by kernel_rfl) (fun _ _ _ h=>h) (Or.inl ⟨by rfl, ?_⟩) hA0.out ?_;rotate_left 1; · (intro w' hS';(obtain ⟨hEs',hcs',hfs'⟩:=hS');go_simp;try with_reducible rfl))
 (refine wpHd_take (i:=4) (v:= ?_) rfl (by kernel_rfl) (by kernel_rfl) (by kernel_rfl) (fun _ _ _ h=>h) (Or.inl ⟨by rfl, ?_⟩) hA0.out ?_;rotate_left 1; · (intro w' hS';(obtain ⟨hEs',hcs',hfs'⟩:=hS');go_simp;try with_reducible rfl))
 (refine wpHd_take (i:=6) (v:= ?_) rfl (by kernel_rfl) (by kernel_rfl) (by kernel_rfl) (fun _ _ _ h=>h) (Or.inl ⟨by rfl, ?_⟩) hA0.out ?_;rotate_left 1; · (intro w' hS';(obtain ⟨hEs',hcs',hfs'⟩:=hS');go_simp;try with_reducible rfl))
 (refine wpHd_take (i:=7) (v:= ?_) rfl (by kernel_rfl) (by kernel_rfl) (by kernel_rfl) (fun _ _ _ h=>h) (Or.inl ⟨by rfl, ?_⟩) hA0.out ?_;rotate_left 1; · (intro w' hS';(obtain ⟨hEs',hcs',hfs'⟩:=hS');go_simp;try with_reducible rfl))
 refine wpHd_one (i:=2) rfl rfl (by kernel_rfl) (fun K hK=> ?_)
 go_simp
 refine (HCB.out _ (by have:=HE.out;exact eX)).mono ?_
 rintro e w2 ⟨b',bc',rfl,ho2,hb2⟩
 have HB2:=Hm (show Ext w0 w2 by exact eX)
 have HO2:=Hm ho2
 refine hK.out _ _ (held_of HB2.out) (fun hA=> ?_)
 clear hK K hA ho2 hb2 hA0
 have hA0:Hid ((fun w' =>Ext (w0) w'∧(∀b o,b<(w0).heap.size→w'.cell? ⟨b,o,none⟩=(w0).cell? ⟨b,o,none⟩)∧(∀b o,b<(w0).heap.size→w'.frozen? ⟨b,o,none⟩=(w0).frozen? ⟨b,o,none⟩)) w2):=held_of HB2.out
 (refine wpHd_take (i:=9) (v:= ?_) rfl (by kernel_rfl) (by kernel_rfl) (by kernel_rfl) (fun _ _ _ h=>h) (Or.inl ⟨by rfl, ?_⟩) hA0.out ?_;rotate_left 1; · (intro w' hS';(obtain ⟨hEs',hcs',hfs'⟩:=hS');go_simp;try with_reducible rfl))
 refine wpHd_one (i:=5) rfl rfl (by kernel_rfl) (fun K hK=> ?_)
 go_simp
 refine (HCA.out _ (HE.out.trans HB2.out)).mono ?_
 rintro e w5 ⟨a',ac',rfl,ho5,hb5⟩
 have HB5:=Hm hb5
 have HO5:=Hm ho5
 refine hK.out _ _ (held_of (HB2.out.trans HB5.out)) (fun hA=> ?_)
 clear hK K hA ho5 hb5 hA0
 refine wpHd_one (i:=8) rfl rfl (by kernel_rfl) (fun K hK=> ?_)
 go_simp
 refine (HCR.out _ (HE.out.trans (HB2.out.trans HB5.out))).mono ?_
 rintro e w8 ⟨r',rc',rfl,ho8,hb8⟩
 have HB8:=Hm hb8
 have HO8:=Hm ho8
 refine hK.out _ _ (held_of (HB2.out.trans (HB5.out.trans HB8.out))) (fun hA=> ?_)
 clear hK K hA ho8 hb8
 refine wpHd_tail (by kernel_rfl) ?_
 simp only [List.drop_succ_cons,List.drop_zero]
 have HV8:=Hm (HV.out.ext (HB2.out.trans (HB5.out.trans HB8.out)))
 have HZ8:=Hm (HZ.out.ext (HB2.out.trans (HB5.out.trans HB8.out)))
 have HE8:=Hm (HE.out.trans (HB2.out.trans (HB5.out.trans HB8.out)))
 clear gv gvf zv
 have gv:=HV8.out.cell
 have gvf:=HV8.out.frozen
 have zv:=HV8.out.lt
 have gz:=HZ8.out.cell
 have gzf:=HZ8.out.frozen
 have zz:=HZ8.out.lt
 go_wp2
 simp [bodyPost,results,Tryz.results37,go_sem, *]
 have h0:=HZ0.out
 have h2:=HB2.out.size
 have h5:=HB5.out.size
 have hE8:=HE8.out
 refine ⟨⟨⟨k1,ao1,av1,old1,b1,a1,r1,fl1⟩,b',bc',a',ac',r',rc'⟩,⟨rfl,rfl,rfl,rfl,⟨rfl,rfl,rfl⟩,⟨rfl,rfl,rfl⟩,⟨rfl,rfl,rfl⟩,rfl⟩,rfl,⟨?_, ?_, ?_⟩,by exact eX⟩
 ·refine owns_base (base:=w0.heap.size) ?_ (by omega)
  repeat (with_reducible refine owns_set ?_ (by dsimp only;omega) _)
  exact owns_ext HO2.out (HB5.out.trans HB8.out)
 ·refine owns_base (base:=w2.heap.size) ?_ (by omega)
  repeat (with_reducible refine owns_set ?_ (by dsimp only;omega) _)
  exact owns_ext HO5.out HB8.out
 ·refine owns_base (base:=w5.heap.size) ?_ (by omega)
  repeat (with_reducible refine owns_set ?_ (by dsimp only;omega) _)
  exact HO8.out
theorem Sl.front {W:World} {a:Option Addr} {n c k m:Nat} {xss:List (List Value)} (h:Sl W (.slice a n c) k xss) (hm:m≤n):Sl W (.slice a m c) k (xss.take m):=by
 obtain ⟨a',c',he,hs⟩:=h
 simp only [Value.slice.injEq] at he
 obtain ⟨rfl,rfl,rfl⟩:=he
 refine ⟨a,c,by rw [List.length_take,Nat.min_eq_left hm], ?_⟩
 rcases hs with rfl|⟨b,o,rfl,hb,hc⟩
 ·left;simp
 ·right
  refine ⟨b,o,rfl,hb,fun i hi j hj=> ?_⟩
  rw [List.length_take] at hi
  rw [hc i (by omega) j hj,List.getD_eq_getElem?_getD,List.getD_eq_getElem?_getD,List.getElem?_take_of_lt (by omega)]
theorem Sl.behind {W:World} {b o n c k m:Nat} {xss:List (List Value)} (h:Sl W (.slice (some ⟨b,o,none⟩) n c) k xss) (hm:m≤n):Sl W (.slice (some ⟨b,o+m*k,none⟩) (n - m) (c - m)) k (xss.drop m):=by
 obtain ⟨a',c',he,hs⟩:=h
 simp only [Value.slice.injEq] at he
 obtain ⟨rfl,rfl,rfl⟩:=he
 refine ⟨_,_,by rw [List.length_drop], ?_⟩
 rcases hs with rfl|⟨b',o',e,hb,hc⟩
 ·left;simp
 ·simp only [Option.some.injEq,Addr.mk.injEq,and_true] at e
  obtain ⟨rfl,rfl⟩:=e
  right
  refine ⟨b,o+m*k,rfl,hb,fun i hi j hj=> ?_⟩
  rw [List.length_drop] at hi
  have h2:=hc (m+i) (by omega) j hj
  rw [show o+m*k+i*k+j=o+(m+i)*k+j by rw [Nat.add_mul];omega,h2,List.getD_eq_getElem?_getD,List.getD_eq_getElem?_getD,List.getElem?_drop]
theorem Sl.after {W:World} {a:Option Addr} {n c m:Nat} {xss:List (List Value)} (h:Sl W (.slice a n c) 1 xss) (hm:m≤n) (hc:n≤c):Sl W (.slice (if c=m then a else a.map (·.add m)) (n - m) (c - m)) 1 (xss.drop m):=by
 by_cases hn:n=m
 ·subst hn
  obtain ⟨a',c',he, -⟩:=h
  simp only [Value.slice.injEq] at he
  refine ⟨_,_,by rw [List.length_drop,he.2.1], .inl ?_⟩
  rw [he.2.1];simp
 ·rw [if_neg (by omega)]
  obtain ⟨a',c',he,hs⟩:=h
  simp only [Value.slice.injEq] at he
  obtain ⟨rfl,rfl,rfl⟩:=he
  rcases hs with rfl|⟨b,o,rfl,hb,hcell⟩
  ·exact absurd (show ([]:List (List Value)).length=m by simp only [List.length_nil] at hm⊢;omega) hn
  ·have:=Sl.behind (W:=W) (b:=b) (o:=o) (n:=xss.length) (c:=c) (k:=1) (m:=m) ⟨_,_,rfl, .inr ⟨b,o,rfl,hb,hcell⟩⟩ hm
   rw [Nat.mul_one] at this
   by_cases h0:m=0
   ·subst h0;simpa [Addr.add] using this
   ·simpa [Addr.add,h0] using this
section
variable {P : Program} {ops : Array Oper} {Q : Exit → Act → World → Prop} {md : Region.Mode} {S : World → Prop}
def chainG (md:Region.Mode) (ops:Array Oper) (n:Nat):Bool:=
 (List.range ops.size).all fun t=>decide (t≤n)||(List.range t).any fun s=>decide (n≤s)&&Region.waitsFor md ops t s
theorem late_waits {n:Nat} {listed:Array Bool} (hs:Region.sinkB md ops n=true) (hc:chainG md ops n=true) (hn:n<ops.size) (inv:HeadInv md ops n listed):
 ∀(d i:Nat),n - i=d→i<n→listed.getD i true=false→∀t,n≤t→t∉Region.ready md ops listed:=by
 intro d
 induction d using Nat.strongRecOn with
 |_ d ih=>
  intro i hd hi hun t ht hr
  obtain ⟨_,ot,hot,hall⟩:=mem_ready.1 hr
  have htlt:t<ops.size:=(Array.getElem?_eq_some_iff.1 hot).1
  by_cases htn:t=n
  ·subst htn
   have h1:=List.all_eq_true.1 hs i (List.mem_range.2 hi)
   obtain ⟨j,hj,hj2⟩:=List.any_eq_true.1 h1
   simp only [Bool.and_eq_true,decide_eq_true_eq] at hj2
   obtain ⟨oj,hoj,e,he,hb,hon⟩:=Region.waitsFor_spec hj2.2
   have hjle:j≤t:=by have:=List.mem_range.1 hj;omega
   by_cases hjt:j=t
   ·subst hjt
    have:oj=ot:=Option.some.inj (hoj.symm.trans hot)
    subst this
    have h2:=hall e he hb
    rw [hon,getD_both hun] at h2
    cases h2
   ·cases hl:listed.getD j false with
    |true=>
     have h2:=inv.closed j oj hoj hl e he hb
     rw [hon,getD_both hun] at h2
     cases h2
    |false=>
     have hjs:j<listed.size:=by rw [inv.size];omega
     exact ih (t - j) (by omega) j rfl (by omega) (getD_in hjs hl) t (Nat.le_refl _) hr
  ·have h1:=List.all_eq_true.1 hc t (List.mem_range.2 htlt)
   simp only [Bool.or_eq_true,decide_eq_true_eq] at h1
   rcases h1 with h1|h1
   ·omega
   ·obtain ⟨s,hs1,hs2⟩:=List.any_eq_true.1 h1
    simp only [Bool.and_eq_true,decide_eq_true_eq] at hs2
    have hst:=List.mem_range.1 hs1
    obtain ⟨o',ho',e,he,hb,hon⟩:=Region.waitsFor_spec hs2.2
    have:o' =ot:=Option.some.inj (ho'.symm.trans hot)
    subst this
    have h2:=hall e he hb
    rw [hon,getD_both (inv.tail s hs2.1 (by omega))] at h2
    cases h2
def wpHb (P:Program) (md:Region.Mode) (ops:Array Oper) (Q:Exit→Act→World→Prop) (S:World→Prop) (n:Nat) (B:Array Bool→Act→World→Prop):Nat→Array Bool→Act→World→Prop
 |0,listed,a,w=>(Region.ready md ops listed).all (fun j=>decide (n≤j))=true∧B listed a w
 |f+1,listed,a,w=>Region.ready md ops listed≠ []∧∀i∈Region.ready md ops listed,i<n∧wpOp P ops Q i (fun a' w' =>S w'∧wpHb P md ops Q S n B f (listed.setIfInBounds i true) a' w') a w
theorem wpAny_of_hb {n g:Nat} {B:Array Bool→Act→World→Prop} (hB:∀L a w,B L a w→wpAny P md ops Q g L a w):∀(f:Nat) (listed:Array Bool) (a:Act) (w:World),wpHb P md ops Q S n B f listed a w→wpAny P md ops Q (f+g) listed a w
 |0,listed,a,w,h=>by
  rw [Nat.zero_add]
  exact hB _ _ _ h.2
 |f+1,listed,a,w,h=>by
  rw [show f+1+g=(f+g)+1 by omega]
  exact ⟨fun h0=>absurd h0 h.1,fun i hi=>wpOp_mono (fun a' w' h' =>wpAny_of_hb hB f _ a' w' h'.2) (h.2 i hi).2⟩
theorem wpHb_first {n i:Nat} {B:Array Bool→Act→World→Prop} {oi:Oper} {v:Value} (hi:ops[i]? =some oi) (hsel:∀(j:Nat) (o:Oper) cs b,ops[j]? =some o→o.op≠ .select cs b)
 (hs:Region.sinkB md ops n=true) (hc:chainG md ops n=true) (hn:n<ops.size) (hin:i<n)
 (hQ:∀c a w,Q (.panic c) (a.put oi.dst v) w→Q (.panic c) a w):
 ∀(f:Nat) (listed:Array Bool) (a:Act) (w:World),HeadInv md ops n listed→
  (∀j oj,ops[j]? =some oj→j≠i→listed.getD j true=false→(∀e∈oj.after,Region.binds md e=true→e.on≠i)→oi.apart ops oj=true)→
  i∈Region.ready md ops listed→YieldsIf P ops S oi v a→S w→
  wpHb P md ops Q S n B f (listed.setIfInBounds i true) (a.put oi.dst v) w→wpHb P md ops Q S n B (f+1) listed a w:=by
 intro f
 induction f with
 |zero=>
  intro listed a w inv _ hr hy hS H
  have hun:=(mem_ready.1 hr).1
  refine ⟨fun h=>(by rw [h] at hr;cases hr),fun j hj=> ?_⟩
  have hjn:j<n:=by
   rcases Nat.lt_or_ge j n with h|h
   ·exact h
   ·exact absurd hj (late_waits hs hc hn inv _ i rfl hin hun j h)
  refine ⟨hjn, ?_⟩
  by_cases hji:j=i
  ·subst hji;exact hy.wpOp hi hS ⟨hS,H⟩
  ·have:=of_decide_eq_true (List.all_eq_true.1 H.1 j (ready_mono hj hji))
   omega
 |succ f ih=>
  intro listed a w inv hfree hr hy hS H
  have hun:=(mem_ready.1 hr).1
  refine ⟨fun h=>(by rw [h] at hr;cases hr),fun j hj=> ?_⟩
  have hjn:j<n:=by
   rcases Nat.lt_or_ge j n with h|h
   ·exact h
   ·exact absurd hj (late_waits hs hc hn inv _ i rfl hin hun j h)
  refine ⟨hjn, ?_⟩
  by_cases hji:j=i
  ·subst hji;exact hy.wpOp hi hS ⟨hS,H⟩
  ·have h1:=(H.2 j (ready_mono hj hji)).2
   obtain ⟨hjun,oj,hoj,hall⟩:=mem_ready.1 hj
   have hnot:∀e∈oj.after,Region.binds md e=true→e.on≠i:=fun e he hb heq=>by
    have h1:=hall e he hb
    rw [heq,getD_both hun] at h1
    cases h1
   have h2:=wpOp_putIf hoj (hfree j oj hoj hji hjun hnot) (fun cs b=>hsel i oi cs b hi) (fun cs b=>hsel j oj cs b hoj) hQ hy h1
   have hfree' :∀k ok,ops[k]? =some ok→k≠i→(listed.setIfInBounds j true).getD k true=false→
    (∀e∈ok.after,Region.binds md e=true→e.on≠i)→oi.apart ops ok=true:=fun k ok hk hki hun hno=>by
    refine hfree k ok hk hki ?_ hno
    by_cases hjk:j=k
    ·subst hjk;exact hjun
    ·rw [getD_set_ne true hjk] at hun;exact hun
   refine wpOp_mono (fun a' w' h3=>⟨h3.2.1,ih (listed.setIfInBounds j true) a' w' (inv.set hj hjn) hfree' (ready_mono hr (Ne.symm hji)) h3.1 h3.2.1 ?_⟩) h2
   rw [Array.setIfInBounds_comm _ _ hji]
   exact h3.2.2
def headG (md:Region.Mode) (ops:Array Oper) (n:Nat) (listed:Array Bool):Bool:=
 decide (listed.size=ops.size)&&decide (n<ops.size)&&Region.noSelect ops&&Region.sinkB md ops n&&chainG md ops n&&
 ((List.range ops.size).all fun j=> !(listed.getD j false)||((ops[j]?).map (·.after.all fun e=> !Region.binds md e||listed.getD e.on false)).getD true)&&
 ((List.range ops.size).all fun t=>decide (t<n)|| !(listed.getD t true))
theorem headG_spec {n:Nat} {listed:Array Bool} (h:headG md ops n listed=true):
 n<ops.size∧Region.noSelect ops=true∧Region.sinkB md ops n=true∧chainG md ops n=true∧HeadInv md ops n listed:=by
 unfold headG at h
 simp only [Bool.and_eq_true,decide_eq_true_eq] at h
 obtain ⟨⟨⟨⟨⟨⟨h1,h2⟩,h3⟩,h4⟩,h5⟩,h6⟩,h7⟩:=h
 refine ⟨h2,h3,h4,h5,h1, ?_, ?_⟩
 ·intro j oj hj hl e he hb
  have hjl:j<ops.size:=(Array.getElem?_eq_some_iff.1 hj).1
  have:=List.all_eq_true.1 h6 j (List.mem_range.2 hjl)
  rw [hl,hj] at this
  simp only [Bool.not_true,Bool.false_or,Option.map_some,Option.getD_some] at this
  have h8:=Array.all_eq_true'.1 this e he
  rw [hb] at h8
  simpa using h8
 ·intro t ht htl
  have:=List.all_eq_true.1 h7 t (List.mem_range.2 htl)
  rw [decide_eq_false (by omega)] at this
  simpa using this
theorem wpHb_take {n i:Nat} {B:Array Bool→Act→World→Prop} {oi:Oper} {v:Value} {f:Nat} {listed:Array Bool} {a:Act} {w:World} (hi:ops[i]? =some oi)
 (hB:headG md ops n listed=true) (hf:Region.free md ops listed i=true) (hr:((Region.ready md ops listed).contains i&&decide (i<n))=true)
 (hQ:∀c a w,Q (.panic c) (a.put oi.dst v) w→Q (.panic c) a w) (hy:YieldsIf P ops S oi v a) (hS:S w)
 (h:wpHb P md ops Q S n B f (listed.setIfInBounds i true) (a.put oi.dst v) w):wpHb P md ops Q S n B (f+1) listed a w:=by
 obtain ⟨hn,hsel,hs,hc,inv⟩:=headG_spec hB
 simp only [Bool.and_eq_true,decide_eq_true_eq] at hr
 exact wpHb_first hi (Region.noSelect_spec hsel) hs hc hn hr.2 hQ f listed a w inv (Region.free_spec hi hf) (by simpa using hr.1) hy hS h
theorem wpHb_done {n:Nat} {B:Array Bool→Act→World→Prop} {listed:Array Bool} {a:Act} {w:World} (hr:(Region.ready md ops listed).all (fun j=>decide (n≤j))=true) (h:B listed a w):wpHb P md ops Q S n B 0 listed a w:=⟨hr,h⟩
theorem wp_region_heads (n g m:Nat) (S S2:World→Prop) {id:Nat} {a:Act} {w:World} (hm:P.follows .mixedOrders=true) (hn:(decide (n+g=m)&&decide (m<ops.size))=true)
 (h:wpHb P .any ops Q S n (wpHd P .any ops Q S2 m g) n (Array.replicate ops.size false) a w.drew):(Code.region id ops true).wp P Q a w:=by
 simp only [Bool.and_eq_true,decide_eq_true_eq] at hn
 have h2:=wpAny_of_hb (fun L a w=>wpAny_of_hd g L a w) _ _ _ _ h
 rw [show n+(g+(ops.size - m))=ops.size by omega] at h2
 exact wp_region_any hm h2
end
theorem HG.wpHb_takeD {P:Program} {ops:Array Oper} {Q:Exit→Act→World→Prop} {md:Region.Mode} {S:World→Prop} {n i:Nat} {B:Array Bool→Act→World→Prop} {oi:Oper} {d:Option Tmp} {v:Value} {f:Nat} {listed:Array Bool} {a:Act} {w:World} (hi:ops[i]? =some oi) (hd:oi.dst=d)
 (hB:headG md ops n listed=true) (hf:Region.free md ops listed i=true) (hr:((Region.ready md ops listed).contains i&&decide (i<n))=true)
 (hQ:∀c a w,Q (.panic c) (a.put d v) w→Q (.panic c) a w) (hy:YieldsIf P ops S oi v a) (hS:S w)
 (h:wpHb P md ops Q S n B f (listed.setIfInBounds i true) (a.put d v) w):wpHb P md ops Q S n B (f+1) listed a w:=by
 subst hd
 exact wpHb_take hi hB hf hr hQ hy hS h
end Go.Proofs.YtodbhliidbclcaaGreat
