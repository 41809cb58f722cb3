import Derived.Lib.ConvBytes
import Derived.SizedLaws
import Derived.Test.YtgmphpccpfaapaaGreatDoorP23
import Derived.Test.YtgmphpccpfaapaaGreatDoorP31
import Derived.Test.YtgmphpccpfaapaaGreatDoorP1
import Derived.Test.YtgmphpccpfaapaaGreatDoorP24
import Derived.Test.YtgmphpccpfaapaaGreatDoorP25
import Derived.Test.YtgmphpccpfaapaaGreatDoorP35
import Derived.Test.YtgmphpccpfaapaaGreatDoorP33
import Derived.Test.YtgmphpccpfaapaaGreatDoorP30
import Derived.Test.YtgmphpccpfaapaaGreatDoorP18
import Derived.Test.YtgmphpccpfaapaaGreatDoorP11
import Derived.Test.YtgmphpccpfaapaaGreatDoorP12
import Derived.Test.YtgmphpccpfaapaaGreatDoorP4
set_option maxRecDepth 100000
set_option maxHeartbeats 16000000

namespace Go.Proofs.YtgmphpccpfaapaaGreatDoor
open Go.RowKit
theorem txt_litL (l:List UInt8):txt l=strOfNums (litL l):=by rw [litL_str];rfl
theorem rform_any (ty:Int) (w:World):Calls Tryz.prog 112 #[.int .u8 ty] w fun e w' =>e= .returned (.int .u8 (formI ty))∧Ext w w' :=by
 have HR:=Hm (show formI ty=if ty=1∨ty=2∨ty=5 then 116 else if ty=3∨ty=4∨ty=6 then 98 else 0 from rfl)
 by_cases h1:ty=1
 ·subst h1;go_enter Tryz.func112,Tryz.ntmps112;go_wp2;go_ret;exact ⟨rfl,Ext.refl _⟩
 by_cases h2:ty=2
 ·subst h2;go_enter Tryz.func112,Tryz.ntmps112;go_wp2;go_ret;exact ⟨rfl,Ext.refl _⟩
 by_cases h5:ty=5
 ·subst h5;go_enter Tryz.func112,Tryz.ntmps112;go_wp2;go_ret;exact ⟨rfl,Ext.refl _⟩
 by_cases h3:ty=3
 ·subst h3;go_enter Tryz.func112,Tryz.ntmps112;go_wp2;go_ret;exact ⟨rfl,Ext.refl _⟩
 by_cases h4:ty=4
 ·subst h4;go_enter Tryz.func112,Tryz.ntmps112;go_wp2;go_ret;exact ⟨rfl,Ext.refl _⟩
 by_cases h6:ty=6
 ·subst h6;go_enter Tryz.func112,Tryz.ntmps112;go_wp2;go_ret;exact ⟨rfl,Ext.refl _⟩
 have HZ:=Hm (HR.out.trans ((if_neg (by omega)).trans (if_neg (by omega))))
 have k1:(ty==1)=false:=by simpa using h1
 have k2:(ty==2)=false:=by simpa using h2
 have k3:(ty==3)=false:=by simpa using h3
 have k4:(ty==4)=false:=by simpa using h4
 have k5:(ty==5)=false:=by simpa using h5
 have k6:(ty==6)=false:=by simpa using h6
 clear HR h1 h2 h3 h4 h5 h6
 go_enter Tryz.func112,Tryz.ntmps112
 go_wp2
 go_ret
 exact ⟨by rw [HZ.out];rfl,Ext.refl _⟩
theorem rspell_any (ty n:Int) (x y:Nat) (s:ByteArray) (w:World) (hn: -9223372036854775808≤n∧n≤9223372036854775807) (hx:x<2 ^ 64) (hy:y<2 ^ 64) (hs:s.size≤9223372036854775807):
 Calls Tryz.prog 141 #[.agg #[.int .u8 ty, .int .i64 n, .int .u64 x, .int .u64 y, .string s]] w fun e w' =>e= .returned (.tuple #[.string (strOfNums (spellL ty n x y s)), .int .i64 (rightV ty n x y s)])∧Ext w w' :=by
 have HV:=Hm (fun W=>rright_any ty n x y s W hs)
 have HF:=Hm (fun W=>rsigned_any n W hn.1 hn.2)
 have HX:=Hm (Blk.new w #[.int .u8 ty, .int .i64 n, .int .u64 x, .int .u64 y, .string s] 99)
 by_cases hE:rightV ty n x y s=0
 case neg=>
  have HL:=Hm (show spellL ty n x y s= [] from if_pos hE)
  have HE2:(rightV ty n x y s !=0)=true:=by simpa using hE
  obtain ⟨E,hEE⟩:∃E,E=rightV ty n x y s:=⟨_,rfl⟩
  rw [←hEE] at HV HE2⊢
  clear hE hEE
  go_enter Tryz.func141,Tryz.ntmps141
  have gX:=HX.out.cell
  have zX:=HX.out.lt
  go_wp2_with (go_at_call 163;refine (HV.out _).mono ?_;rintro e w2 ⟨rfl,hb2⟩)
  go_ret2
  exact ⟨by rw [HL.out];rfl,by exact eX⟩
 have HL:=Hm (show spellL ty n x y s=spellT ty n x y s from if_neg (by rw [hE];simp))
 have HB:=Hm (rightV_bits hE)
 rw [hE] at HV⊢
 have HWX:=Hm (fun W=>rword_any (x:Int) 8 W (by omega) (by omega) (by omega))
 have HWY:=Hm (fun W=>rword_any (y:Int) 8 W (by omega) (by omega) (by omega))
 by_cases h1:ty=1
 ·subst h1
  rcases HB.out.2.1 rfl with rfl|rfl
  all_goals
   clear hE HF HWX HWY
   go_enter Tryz.func141,Tryz.ntmps141
   have gX:=HX.out.cell
   have zX:=HX.out.lt
   go_wp2_with (go_at_call 163;refine (HV.out _).mono ?_;rintro e w2 ⟨rfl,hb2⟩;clear gX zX;have gX:=(HX.out.ext hb2).cell;have zX:=(HX.out.ext hb2).lt)
   go_ret2
   exact ⟨by rw [HL.out];rfl,by exact eX⟩
 have k1:(ty==1)=false:=by simpa using h1
 by_cases h2:ty=2
 ·subst h2
  have HS:=Hm (HL.out.trans (show spellT 2 n x y s=litL (Lib.itoa n) from rfl))
  rw [txt_litL] at HF
  clear hE HWX HWY HL
  go_enter Tryz.func141,Tryz.ntmps141
  have gX:=HX.out.cell
  have zX:=HX.out.lt
  go_wp2_with (first
   |(go_at_call 163;refine (HV.out _).mono ?_;rintro e w2 ⟨rfl,hb2⟩;clear gX zX;have gX:=(HX.out.ext hb2).cell;have zX:=(HX.out.ext hb2).lt)
   |(go_at_call 164;refine (HF.out _).mono ?_;rintro e w3 ⟨rfl,rfl⟩))
  go_ret2
  exact ⟨by rw [HS.out];rfl,by exact eX⟩
 have k2:(ty==2)=false:=by simpa using h2
 by_cases h3:ty=3
 ·subst h3
  have HS:=Hm (HL.out.trans (show spellT 3 n x y s=octs x 8 from rfl))
  clear hE HF HL HWY
  go_enter Tryz.func141,Tryz.ntmps141
  have gX:=HX.out.cell
  have zX:=HX.out.lt
  go_wp2_with (first
   |(go_at_call 163;refine (HV.out _).mono ?_;rintro e w2 ⟨rfl,hb2⟩;clear gX zX;have gX:=(HX.out.ext hb2).cell;have zX:=(HX.out.ext hb2).lt)
   |(go_at_call 165;refine (HWX.out _).mono ?_;rintro e w3 ⟨rfl,hb3⟩))
  go_ret2
  exact ⟨by rw [HS.out];rfl,by exact eX⟩
 have k3:(ty==3)=false:=by simpa using h3
 by_cases h4:ty=4
 ·subst h4
  have HS:=Hm (HL.out.trans (show spellT 4 n x y s=octs x 8++octs y 8 from rfl))
  have s1:=strO_size (octs x 8)
  have s2:=strO_size (octs y 8)
  rw [octs_len] at s1 s2
  clear hE HF HL
  go_enter Tryz.func141,Tryz.ntmps141
  have gX:=HX.out.cell
  have zX:=HX.out.lt
  go_upto_region 14 with (go_at_call 163;refine (HV.out _).mono ?_;rintro e w2 ⟨rfl,hb2⟩;have HX2:=Hm (HX.out.ext hb2);have HB2:=Hm hb2;clear gX zX hb2;have gX:=HX2.out.cell;have zX:=HX2.out.lt)
  have HE2:=Hm (show Ext w w2 by have:=HB2.out;exact eX)
  have hA0:Hid ((fun w' =>Ext (w2) w'∧(∀b o,b<(w2).heap.size→w'.cell? ⟨b,o,none⟩=(w2).cell? ⟨b,o,none⟩)∧(∀b o,b<(w2).heap.size→w'.frozen? ⟨b,o,none⟩=(w2).frozen? ⟨b,o,none⟩)) w2.drew):=held_of (by exact eX)
  refine wp_region_head 7 (fun w' =>Ext (w2) w'∧(∀b o,b<(w2).heap.size→w'.cell? ⟨b,o,none⟩=(w2).cell? ⟨b,o,none⟩)∧(∀b o,b<(w2).heap.size→w'.frozen? ⟨b,o,none⟩=(w2).frozen? ⟨b,o,none⟩)) (by kernel_rfl) (by decide) ?_
  refine HG.on 0 29 hA0.out ?_
  try simp only [Act.put,List.setIfInBounds_toArray,List.set_cons_zero,List.set_cons_succ]
  refine HG.on 1 30 hA0.out ?_
  try simp only [Act.put,List.setIfInBounds_toArray,List.set_cons_zero,List.set_cons_succ]
  refine HG.on 3 32 hA0.out ?_
  try simp only [Act.put,List.setIfInBounds_toArray,List.set_cons_zero,List.set_cons_succ]
  refine HG.on 4 33 hA0.out ?_
  try simp only [Act.put,List.setIfInBounds_toArray,List.set_cons_zero,List.set_cons_succ]
  refine wpHd_one (i:=2) rfl rfl (by kernel_rfl) (fun KK hK=> ?_)
  go_simp
  refine (HWX.out _).mono ?_
  rintro e w3 ⟨rfl,hb3⟩
  have HB3:Hid (Ext w2 w3):=Hm (by exact eX)
  refine hK.out _ _ (held_of HB3.out) (fun hA=> ?_)
  clear hK KK hA hA0 hb3
  refine wpHd_one (i:=5) rfl rfl (by kernel_rfl) (fun KK hK=> ?_)
  go_simp
  refine (HWY.out _).mono ?_
  rintro e w4 ⟨rfl,hb4⟩
  have HB4:Hid (Ext w2 w4):=Hm (HB3.out.trans hb4)
  refine hK.out _ _ (held_of HB4.out) (fun hA=> ?_)
  clear hK KK hA hb4
  have hA0:Hid ((fun w' =>Ext (w2) w'∧(∀b o,b<(w2).heap.size→w'.cell? ⟨b,o,none⟩=(w2).cell? ⟨b,o,none⟩)∧(∀b o,b<(w2).heap.size→w'.frozen? ⟨b,o,none⟩=(w2).frozen? ⟨b,o,none⟩)) w4):=held_of HB4.out
  refine HG.on 6 35 hA0.out ?_
  try simp only [Act.put,List.setIfInBounds_toArray,List.set_cons_zero,List.set_cons_succ]
  clear hA0 gX zX
  refine wpHd_tail (by kernel_rfl) ?_
  simp only [List.drop_succ_cons,List.drop_zero]
  go_wp2
  go_ret2
  exact ⟨by rw [HS.out,←strO_app];rfl,HE2.out.trans HB4.out⟩
 have k4:(ty==4)=false:=by simpa using h4
 have HS:=Hm (HL.out.trans (show spellT ty n x y s=strL s from by unfold spellT;rw [if_neg h1,if_neg h2,if_neg h3,if_neg h4]))
 clear hE HF HL HWX HWY h1 h2 h3 h4
 go_enter Tryz.func141,Tryz.ntmps141
 have gX:=HX.out.cell
 have zX:=HX.out.lt
 go_wp2_with (go_at_call 163;refine (HV.out _).mono ?_;rintro e w2 ⟨rfl,hb2⟩;clear gX zX;have gX:=(HX.out.ext hb2).cell;have zX:=(HX.out.ext hb2).lt)
 go_ret2
 exact ⟨by rw [HS.out,strO_strL];rfl,by exact eX⟩
def rv (x:Nat):Nat→Nat
 |0=>0
 |k+1=>256*rv x k+x / 256 ^ k%256
theorem Lit.ok {ps:List RR} {ts:List TL} (h:Lit ps ts):ts.length≤1000∧(∀t∈ts,t.es.length≤1000)∧(∀t∈ts,∀e∈t.es,e.e.small)∧∀t∈ts,∀e∈t.es,e.e.rs.length≤1000:=by
 refine ⟨by have:=h.t;omega,fun t ht=> ?_,fun t ht e he=> ?_,fun t ht e he=>by have:=(h.e t ht e he).r;omega⟩
 ·obtain ⟨i,hi,rfl⟩:=List.getElem_of_mem ht
  have h1:=manyT_succ hi
  have h2:=manyT_le ts (i+1)
  have h3:=h.es
  omega
 ·have h1:=h.e t ht e he
  exact ⟨by have:=h1.b;omega,by have:=h1.a;omega,by have:=h1.r;omega⟩
theorem OwnT.sm {W:World} {N:Nat} {v:Value} {ts qs:List TL} (ho:OwnT W N (ts.map TL.t) v qs) (h1:∀t∈ts,t.es.length≤1000) (h2:∀t∈ts,∀e∈t.es,e.e.small):(∀t∈qs,t.es.length≤1000)∧∀t∈qs,∀e∈t.es,e.e.small:=by
 have h3:∀t∈qs,∃t2∈ts,t2.es.map EL.e=t.es.map EL.e:=fun t ht=>by
  have h4:t.t∈ts.map TL.t:=by rw [←ho.t];exact List.mem_map_of_mem ht
  obtain ⟨t2,h5,h6⟩:=List.mem_map.1 h4
  exact ⟨t2,h5,congrArg Tx.es h6⟩
 refine ⟨fun t ht=> ?_,fun t ht e he=> ?_⟩
 ·obtain ⟨t2,h5,h6⟩:=h3 t ht
  have:=congrArg List.length h6
  rw [List.length_map,List.length_map] at this
  have:=h1 t2 h5
  omega
 ·obtain ⟨t2,h5,h6⟩:=h3 t ht
  have h7:e.e∈t2.es.map EL.e:=by rw [h6];exact List.mem_map_of_mem he
  obtain ⟨e2,h8,h9⟩:=List.mem_map.1 h7
  rw [←h9];exact h2 t2 h5 e2 h8
theorem OwnT.wk {W:World} {N:Nat} {v:Value} {ts qs:List TL} (ho:OwnT W N (ts.map TL.t) v qs) (h2:∀t∈ts,∀e∈t.es,e.e.wk):∀t∈qs,∀e∈t.es,e.e.wk:=by
 intro t ht e he
 have h4:t.t∈ts.map TL.t:=by rw [←ho.t];exact List.mem_map_of_mem ht
 obtain ⟨t2,h5,h6⟩:=List.mem_map.1 h4
 have h7:e.e∈t2.es.map EL.e:=by rw [show t2.es.map EL.e=t.es.map EL.e from congrArg Tx.es h6];exact List.mem_map_of_mem he
 obtain ⟨e2,h8,h9⟩:=List.mem_map.1 h7
 rw [←h9];exact h2 t2 h5 e2 h8
theorem in16_any (ps:List RR) (a:Option Addr) (cap:Nat) (w:World) (hl:RL w (.slice a ps.length cap) ps) (hb:∀p∈ps,p.r.wb) (hlen:ps.length≤9223372036854775807):
 Calls Tryz.prog 5 #[.slice a ps.length cap] w fun e w' =>e= .returned (.bool (decide (ofE (ps.map RR.r)=0)))∧Ext w w' :=by
 have HRA:=Hm (rof_any ps a cap w hl hb hlen)
 unfold ROfPost at HRA
 obtain ⟨EA,hEA⟩:∃E,E=ofE (ps.map RR.r):=⟨_,rfl⟩
 rw [←hEA] at HRA⊢
 clear hl hb hlen hEA
 go_enter Tryz.func5,Tryz.ntmps5
 go_wp2_with (go_at_call 15;refine HRA.out.mono ?_;rintro e w1 ⟨aw,cw,n,rfl, -, -,hb1⟩;have HB1:=Hm hb1;clear hb1)
 simp [bodyPost,results,Tryz.results5,go_sem]
 exact ⟨by first|rfl|(rw [Bool.eq_iff_iff];simp),HB1.out⟩
def Own16Post (ps:List RR) (w:World) (e:Ending) (w' :World):Prop:=∃g c qs,e= .returned (.pointer (some ⟨g,0,none⟩))∧w.heap.size≤g∧Ca w' g g c qs∧qs.map RR.r=ofUp (ps.map RR.r) ps.length∧Ext w w'
theorem own16_any (ps:List RR) (a:Option Addr) (cap:Nat) (w:World) (hl:RL w (.slice a ps.length cap) ps) (hb:∀p∈ps,p.r.wb) (hlen:ps.length≤1000) (h0:ofE (ps.map RR.r)=0):
 Calls Tryz.prog 6 #[.slice a ps.length cap] w (Own16Post ps w):=by
 have HOA:=Hm (own9_any ps a cap w hl hlen hb)
 have HB:=Hm hb
 have HEA:=Hm h0
 clear hl hb h0
 go_enter Tryz.func6,Tryz.ntmps6
 go_wp2_with (first
  |(go_at_call 17;refine HOA.out.mono ?_;rintro e w3 ⟨a2',c2',qs2,rfl,ho2,hb2⟩;have HB3:=Hm hb2;have HOF:=Hm (cof_any qs2 a2' c2' w3 (by rw [ho2.len];exact ho2.rl) ho2.cap (ho2.wb HB.out) (by rw [ho2.len];exact hlen));rw [ho2.rs,ho2.len] at HOF;unfold COfPost at HOF;rw [HEA.out] at HOF;clear ho2 hb2)
  |(go_at_call 16;refine HOF.out.mono ?_;rintro e w4 ⟨pv,rfl,h1, -,hb3⟩;obtain ⟨rfl,cc,qc,hcc,hqc⟩:=h1 (by first|exact rfl|exact trivial);have HCC:=Hm hcc;have HQC:=Hm hqc;have HB4:=Hm (HB3.out.trans hb3);clear h1 hcc hqc hb3))
 have hz:w.heap.size≤w3.heap.size:=HB3.out.size
 simp [bodyPost,results,Tryz.results6,go_sem]
 exact ⟨_,cc,qc,rfl,hz,HCC.out,by rw [HQC.out,List.length_map],HB4.out⟩
open Go.RowKit Go.ChangeShapes Go.WideShapes Go.ChangeAt
section
variable {H : Type} {enc : TypeId × Value → H} {P : Program} {w : World} {base : Nat} {spare : Nat → Bool} {held : Bool}
theorem weightsAll_mem {e:TypeId} :∀ {l:List (DataW H)} {d:DataW H},d∈l→∀n∈d.weights P e,n∈DataW.weightsAll P e l
 |d' ::r,d,hd,n,hn=>by
  simp only [DataW.weightsAll,List.mem_append]
  rcases List.mem_cons.1 hd with rfl|h
  ·exact Or.inl hn
  ·exact Or.inr (weightsAll_mem h n hn)
theorem trod_slW {T E:TypeId} {k n:Nat} {cs:List Value} {x:DataW H×List MemPlace} (ht:P.underlying T=some (.slice E)) (hk:P.cellsOf E=k) (hk0:0<k) (h:DataW.trod enc P w base spare held n T cs=some x):
 ∃v xss,cs= [v]∧Sl w v k xss∧xss.length≤9223372036854775807∧(xss= []∨∃q∈x.1.weights P T,xss.length*P.bytesOf E≤q)∧∀xs∈xss,xs.length=k∧∃n y,DataW.trod enc P w base spare held n E xs=some y∧∀q∈y.1.weights P E,q∈x.1.weights P T:=by
 rcases Go.Deep.open_slice ht h with ⟨rfl,rfl⟩|⟨a,len,cap,m,q,D,Pl,rfl,hb,hl,hm,hmm,hxx,hx⟩
 ·exact ⟨_, [],rfl,⟨none,0,rfl, .inl rfl⟩,by simp, .inl rfl,by simp⟩
 ·have hlm:len≤m:=by rw [hmm];split<;>omega
  have hw:∀i,i<len→∀q∈(D i).weights P E,q∈x.1.weights P T:=fun i hi q hq=>by
   rw [hxx]
   simp only [DataW.weights,ht,List.mem_cons,List.mem_append]
   exact .inr (.inl (weightsAll_mem (List.mem_map.2 ⟨i,List.mem_range.2 hi,rfl⟩) q hq))
  have hall:∀i,i<len→∃cs',w.cells? base (a.add (i*k)) k=some cs'∧DataW.trod enc P w base spare held q E cs' =some (D i,Pl i):=fun i hi=>by
   have:=hx i (by omega);rwa [hk] at this
  obtain ⟨C,hC⟩:=Go.Deep.choose_lt hall
  have hcl:cap≤9223372036854775807:=hm
  refine ⟨_,(List.range len).map C,rfl, ?_,by simp;omega, .inr ⟨(len+(m - len))*P.bytesOf E, ?_, ?_⟩, ?_⟩
  ·refine ⟨some a,cap,by simp, ?_⟩
   by_cases h0:len=0
   ·subst h0;exact .inl rfl
   ·right
    have hc0:=(World.cells?_some (hC 0 (by omega)).1)
    have e0:(a.add (0*k)).add 0=a:=by unfold Addr.add;simp
    have hcell:(w.cell? a).isSome=true:=by
     have:=hc0.2.2 0 hk0
     rw [e0] at this
     rw [this,List.getElem?_eq_getElem (by omega)];rfl
    have hsp:a.spot=none:=by
     unfold World.cell? at hcell
     split at hcell
     ·split at hcell
      ·simp at hcell
      ·rename_i hs;simpa using hs
     ·simp at hcell
    have hlt:a.block<w.heap.size:=by
     unfold World.cell? at hcell
     rcases Nat.lt_or_ge a.block w.heap.size with h1|h1
     ·exact h1
     ·rw [Array.getElem?_eq_none h1] at hcell;simp at hcell
    refine ⟨a.block,a.off,by cases a;simp at hsp;subst hsp;rfl,hlt, ?_⟩
    intro i hi j hj
    simp only [List.length_map,List.length_range] at hi
    have h2:=(World.cells?_some (hC i hi).1).2.2 j hj
    rw [Go.Deep.add_add] at h2
    have e:a.add (i*k+j)=⟨a.block,a.off+i*k+j,none⟩:=by
     unfold Addr.add
     split
     ·rename_i hz
      have h3:i*k=0:=by omega
      have h4:j=0:=by omega
      cases a;simp at hsp;subst hsp;simp [h3,h4]
     ·cases a;simp at hsp;subst hsp;simp
    rw [e] at h2
    rw [h2]
    simp [hi]
  ·rw [hxx]
   simp only [DataW.weights,ht,List.mem_cons,List.length_map,List.length_range,true_or]
  ·rw [List.length_map,List.length_range]
   exact Nat.mul_le_mul_right _ (by omega)
  ·intro xs hxs
   simp only [List.mem_map,List.mem_range] at hxs
   obtain ⟨i,hi,rfl⟩:=hxs
   exact ⟨(World.cells?_some (hC i hi).1).2.1,_,_,(hC i hi).2,hw i hi⟩
end
theorem Tryz.cellsRelG:Tryz.prog.cellsOf 44=5:=by kernel_rfl
theorem Tryz.cellsColsG:Tryz.prog.cellsOf 42=1:=by kernel_rfl
theorem Tryz.bytesColG:Tryz.prog.bytesOf 103=24:=by kernel_rfl
section
variable {H : Type} {enc : TypeId × Value → H} {w : World} {base : Nat} {spare : Nat → Bool} {held : Bool} {r : Reach} {base2 : Nat} {v : Value} {d : DataW H} {ps : List MemPlace}
theorem openR_one {n:Nat} {cs:List Value} {x:DataW H×List MemPlace} (h:DataW.trod enc Tryz.prog w base spare held n 44 cs=some x) (hwt:∀q∈x.1.weights Tryz.prog 44,q≤reachBytes):
 ∃p:RR,cs=p.cells∧p.in w∧p.r.wb:=by
 have hl:=flat_open 4 _ _ n cs x Tryz.flatRelG h
 obtain ⟨xs,m,_,rfl,hlen,hxl,hf⟩:=DataW.trod_struct Tryz.underlying44 h
 match cs,hl with
 | [c0,c1,c2,c3,c4],⟨l0,l1,l2,l3,l4,_⟩=>
  obtain ⟨oid,rfl,h0⟩:=l0.int Tryz.underlying38
  obtain ⟨ver,rfl,h1⟩:=l1.int Tryz.underlying38
  obtain ⟨nm,rfl,h2⟩:=l2.string Tryz.underlying9
  obtain ⟨id,rfl,h3⟩:=l3.int Tryz.underlying5
  have h4:DataW.trod enc Tryz.prog w base spare held m 42 ((([Value.int .u32 oid, .int .u32 ver, .string nm, .int .u8 id,c4]:List Value).drop 4).take (Tryz.prog.cellsOf 42))=xs[3]? :=(hf 3 _ rfl).trans rfl
  rw [Tryz.cellsColsG] at h4
  simp only [List.drop_succ_cons,List.drop_zero,List.take_succ_cons,List.take_zero] at h4
  have h3l:3<xs.length:=by rw [hxl];decide
  rw [List.getElem?_eq_getElem h3l] at h4
  have hwt2:∀q∈(xs[3]).1.weights Tryz.prog 42,q≤reachBytes:=fun q hq=>by
   refine hwt q ?_
   simp only [DataW.weights,Tryz.underlying44]
   refine DataW.weights_mem_each (j:=3) (t:=42) (d:=(xs[3]).1) rfl (by rw [List.getElem?_map,List.getElem?_eq_getElem h3l];rfl) q hq
  obtain ⟨v',xss,hcs,hsl,hlen2,hw2,hx⟩:=trod_slW Tryz.underlying42 Tryz.cellsColG (by decide) h4
  obtain rfl:c4=v' :=by simpa using hcs
  obtain ⟨cols,rfl,hcl⟩:=exists_map (f:=Col.cells) (p:=fun c=>c.nm.size≤9223372036854775807) xss (fun xs hxs=>by
   obtain ⟨_,n,x,h,_⟩:=hx xs hxs
   have hl:=flat_open 4 _ _ n xs x Tryz.flatColG h
   match xs,hl with
   | [d0,d1,d2],⟨m0,m1,m2,_⟩=>
    obtain ⟨s,rfl,hs⟩:=m0.string Tryz.underlying9
    obtain ⟨ty,rfl,_⟩:=m1.int Tryz.underlying5
    obtain ⟨b,rfl⟩:=m2.bool Tryz.underlying4
    exact ⟨⟨s,ty,b⟩,rfl,hs⟩)
  obtain ⟨a,cap,rfl,hshape⟩:=hsl.shape (n:=cols.length) (by simp)
  refine ⟨⟨⟨oid,ver,nm,id,cols⟩,a,cap⟩,rfl,hsl,⟨h2,hcl, ?_,(wfG_u8 h3).1⟩⟩
  rcases hw2 with h0|⟨q,hq,hle⟩
  ·have:cols= []:=by simpa using h0
   simp [this]
  ·have h5:=hwt2 q hq
   rw [Tryz.bytesColG,List.length_map] at hle
   have h6:reachBytes=140737488351232:=rfl
   show cols.length≤5864062014634
   omega
theorem Tryz.flatRefG:flat Tryz.prog 4 41=some [38,38]:=by kernel_rfl
theorem Tryz.cellsRefG:Tryz.prog.cellsOf 41=2:=by kernel_rfl
end
end Go.Proofs.YtgmphpccpfaapaaGreatDoor
