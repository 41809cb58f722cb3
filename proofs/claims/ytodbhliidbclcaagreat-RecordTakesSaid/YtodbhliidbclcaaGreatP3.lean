/-
Names: the program's, the reference's.
-/
import Derived.RangeFuncNested
import Derived.RangeFuncBound
import Derived.RangeFuncCalls
import Derived.RangeFuncLeaves
import Derived.RangeFuncBox
import Derived.Shelf.Abstract
import Derived.Shelf.RegionOpen
import Derived.OwnWalkIn
import Derived.TacticsInMore
import Derived.LoopNIn
import Derived.LoopIn
import Derived.Test.YtodbhliidbclcaaGreatP2
set_option maxRecDepth 100000
set_option maxHeartbeats 16000000
namespace Go.Proofs.YtodbhliidbclcaaGreat
open Go.RowKit
theorem named_any (s:ByteArray) (w:World) (hs:s.size≤9223372036854775807):
 Calls Tryz.prog 99 #[.string s] w fun e w' =>e= .returned (.bool (namedB s))∧w=w' :=by
 go_enter Tryz.func99,Tryz.ntmps99
 go_wp2
 go_loop [8] (fun i=>∃k:Nat,k≤s.size∧i= .int .i64 k∧Hid (∀j,j<k→nameAt s j=true)) (fun i=>s.size - (intOf i).toNat)
 case atStart=>exact ⟨0,Nat.zero_le _,rfl,fun j h=>by omega⟩
 case round=>
  obtain ⟨k,hk,rfl,hrel⟩:=hrel
  by_cases hlt:k<s.size
  ·rcases name_cases hlt with ⟨hn,hc⟩|⟨hn,hc⟩
   ·have HN:=Hm hn
    clear hn
    have HC:=Hm hc
    clear hc
    rcases HC.out with ⟨h1,h2⟩|⟨h0,h1,h2⟩|⟨h0,h1⟩
    ·clear HC
     go_wp2
     go_round
     case rel=>exact ⟨k+1,by omega,by go_num,fun j hj=>by
      by_cases e:j=k
      ·subst e;exact HN.out
      ·exact hrel.out j (by omega)⟩
     case measure=>simp [intOf];omega
    ·clear HC
     (try first|(have a1:97≤(s[k].toNat:Int):=by omega)|(have a1:(s[k].toNat:Int)<97:=by omega));(try first|(have a2:(s[k].toNat:Int)≤122:=by omega)|(have a2:122<(s[k].toNat:Int):=by omega));(try first|(have a3:48≤(s[k].toNat:Int):=by omega)|(have a3:(s[k].toNat:Int)<48:=by omega));(try first|(have a4:(s[k].toNat:Int)≤57:=by omega)|(have a4:57<(s[k].toNat:Int):=by omega));(try first|(have a1d:decide (97≤(s[k].toNat:Int))=true:=decide_eq_true (by omega))|(have a1d:decide (97≤(s[k].toNat:Int))=false:=decide_eq_false (by omega)));(try first|(have a2d:decide ((s[k].toNat:Int)≤122)=true:=decide_eq_true (by omega))|(have a2d:decide ((s[k].toNat:Int)≤122)=false:=decide_eq_false (by omega)));(try first|(have a3d:decide (48≤(s[k].toNat:Int))=true:=decide_eq_true (by omega))|(have a3d:decide (48≤(s[k].toNat:Int))=false:=decide_eq_false (by omega)));(try first|(have a4d:decide ((s[k].toNat:Int)≤57)=true:=decide_eq_true (by omega))|(have a4d:decide ((s[k].toNat:Int)≤57)=false:=decide_eq_false (by omega)))
     have e0:((k:Int)==0)=false:=by simp;omega
     have h3:(s[k].toNat:Int)<97:=by omega
     go_wp2
     go_round
     case rel=>exact ⟨k+1,by omega,by go_num,fun j hj=>by
      by_cases e:j=k
      ·subst e;exact HN.out
      ·exact hrel.out j (by omega)⟩
     case measure=>simp [intOf];omega
    ·clear HC
     have e0:((k:Int)==0)=false:=by simp;omega
     have e1:((s[k].toNat:Int) !=95)=false:=by simp;omega
     have h3:(s[k].toNat:Int)<97:=by omega
     have h4:57<(s[k].toNat:Int):=by omega
     clear h1
     go_wp2
     go_round
     case rel=>exact ⟨k+1,by omega,by go_num,fun j hj=>by
      by_cases e:j=k
      ·subst e;exact HN.out
      ·exact hrel.out j (by omega)⟩
     case measure=>simp [intOf];omega
   ·have HF:=Hm (named_no hlt hn)
    clear hn
    rcases hc with ⟨rfl,h1⟩|⟨rfl,h1⟩|⟨h0,h1⟩|⟨h0,h1,h2⟩|⟨h0,h1,h2⟩|⟨h0,h1⟩
    ·(try first|(have a1:97≤(s[0].toNat:Int):=by omega)|(have a1:(s[0].toNat:Int)<97:=by omega));(try first|(have a2:(s[0].toNat:Int)≤122:=by omega)|(have a2:122<(s[0].toNat:Int):=by omega));(try first|(have a3:48≤(s[0].toNat:Int):=by omega)|(have a3:(s[0].toNat:Int)<48:=by omega));(try first|(have a4:(s[0].toNat:Int)≤57:=by omega)|(have a4:57<(s[0].toNat:Int):=by omega));(try first|(have a1d:decide (97≤(s[0].toNat:Int))=true:=decide_eq_true (by omega))|(have a1d:decide (97≤(s[0].toNat:Int))=false:=decide_eq_false (by omega)));(try first|(have a2d:decide ((s[0].toNat:Int)≤122)=true:=decide_eq_true (by omega))|(have a2d:decide ((s[0].toNat:Int)≤122)=false:=decide_eq_false (by omega)));(try first|(have a3d:decide (48≤(s[0].toNat:Int))=true:=decide_eq_true (by omega))|(have a3d:decide (48≤(s[0].toNat:Int))=false:=decide_eq_false (by omega)));(try first|(have a4d:decide ((s[0].toNat:Int)≤57)=true:=decide_eq_true (by omega))|(have a4d:decide ((s[0].toNat:Int)≤57)=false:=decide_eq_false (by omega)))
     go_wp2
     all_goals
      go_ret
      exact ⟨ret_bool HF.out.symm,rfl⟩
    ·(try first|(have a1:97≤(s[0].toNat:Int):=by omega)|(have a1:(s[0].toNat:Int)<97:=by omega));(try first|(have a2:(s[0].toNat:Int)≤122:=by omega)|(have a2:122<(s[0].toNat:Int):=by omega));(try first|(have a3:48≤(s[0].toNat:Int):=by omega)|(have a3:(s[0].toNat:Int)<48:=by omega));(try first|(have a4:(s[0].toNat:Int)≤57:=by omega)|(have a4:57<(s[0].toNat:Int):=by omega));(try first|(have a1d:decide (97≤(s[0].toNat:Int))=true:=decide_eq_true (by omega))|(have a1d:decide (97≤(s[0].toNat:Int))=false:=decide_eq_false (by omega)));(try first|(have a2d:decide ((s[0].toNat:Int)≤122)=true:=decide_eq_true (by omega))|(have a2d:decide ((s[0].toNat:Int)≤122)=false:=decide_eq_false (by omega)));(try first|(have a3d:decide (48≤(s[0].toNat:Int))=true:=decide_eq_true (by omega))|(have a3d:decide (48≤(s[0].toNat:Int))=false:=decide_eq_false (by omega)));(try first|(have a4d:decide ((s[0].toNat:Int)≤57)=true:=decide_eq_true (by omega))|(have a4d:decide ((s[0].toNat:Int)≤57)=false:=decide_eq_false (by omega)))
     go_wp2
     all_goals
      go_ret
      exact ⟨ret_bool HF.out.symm,rfl⟩
    all_goals
     have e0:((k:Int)==0)=false:=by simp;omega
     have e1:((s[k].toNat:Int) !=95)=true:=by simp;omega
     (try first|(have a1:97≤(s[k].toNat:Int):=by omega)|(have a1:(s[k].toNat:Int)<97:=by omega));(try first|(have a2:(s[k].toNat:Int)≤122:=by omega)|(have a2:122<(s[k].toNat:Int):=by omega));(try first|(have a3:48≤(s[k].toNat:Int):=by omega)|(have a3:(s[k].toNat:Int)<48:=by omega));(try first|(have a4:(s[k].toNat:Int)≤57:=by omega)|(have a4:57<(s[k].toNat:Int):=by omega));(try first|(have a1d:decide (97≤(s[k].toNat:Int))=true:=decide_eq_true (by omega))|(have a1d:decide (97≤(s[k].toNat:Int))=false:=decide_eq_false (by omega)));(try first|(have a2d:decide ((s[k].toNat:Int)≤122)=true:=decide_eq_true (by omega))|(have a2d:decide ((s[k].toNat:Int)≤122)=false:=decide_eq_false (by omega)));(try first|(have a3d:decide (48≤(s[k].toNat:Int))=true:=decide_eq_true (by omega))|(have a3d:decide (48≤(s[k].toNat:Int))=false:=decide_eq_false (by omega)));(try first|(have a4d:decide ((s[k].toNat:Int)≤57)=true:=decide_eq_true (by omega))|(have a4d:decide ((s[k].toNat:Int)≤57)=false:=decide_eq_false (by omega)))
     go_wp2
     all_goals
      go_ret
      exact ⟨ret_bool HF.out.symm,rfl⟩
  ·have hkk:k=s.size:=by omega
   have HF:=Hm (named_yes (s:=s) fun j hj=>hrel.out j (by omega))
   subst hkk
   by_cases h1:1≤s.size<;>by_cases h2:s.size≤31
   all_goals
    go_wp2
    all_goals go_ret
    all_goals exact ⟨ret_bool (by rw [HF.out]<;>first|(apply decide_eq_decide.2;omega)|(symm;rw [decide_eq_true_iff];omega)|(symm;rw [decide_eq_false_iff_not];omega)),rfl⟩
theorem rnamed_any (s:ByteArray) (w:World) (hs:s.size≤9223372036854775807):
 Calls Tryz.prog 86 #[.string s] w fun e w' =>e= .returned (.bool (namedB s))∧w=w' :=by
 by_cases hl:1≤s.size∧s.size≤31
 case neg=>
  have HF:=Hm (named_len hl)
  by_cases h1:s.size<1
  ·clear hl
   go_enter Tryz.func86,Tryz.ntmps86
   go_wp2
   go_ret
   exact ⟨ret_bool HF.out.symm,rfl⟩
  ·have h2:31<s.size:=by omega
   clear hl
   go_enter Tryz.func86,Tryz.ntmps86
   go_wp2
   go_ret
   exact ⟨ret_bool HF.out.symm,rfl⟩
 obtain ⟨hl1,hl2⟩:=hl
 go_enter Tryz.func86,Tryz.ntmps86
 go_wp2
 go_loop [3] (fun i=>∃k:Nat,k≤s.size∧i= .int .i64 k∧Hid (∀j,j<k→nameAt s j=true)) (fun i=>s.size - (intOf i).toNat)
 case atStart=>exact ⟨0,Nat.zero_le _,rfl,fun j h=>by omega⟩
 case round=>
  obtain ⟨k,hk,rfl,hrel⟩:=hrel
  by_cases hlt:k<s.size
  ·rcases name_cases hlt with ⟨hn,hc⟩|⟨hn,hc⟩
   ·have HN:=Hm hn
    clear hn
    have HC:=Hm hc
    clear hc
    rcases HC.out with ⟨h1,h2⟩|⟨h0,h1,h2⟩|⟨h0,h1⟩
    ·clear HC
     go_wp2
     go_round
     case rel=>exact ⟨k+1,by omega,by go_num,fun j hj=>by
      by_cases e:j=k
      ·subst e;exact HN.out
      ·exact hrel.out j (by omega)⟩
     case measure=>simp [intOf];omega
    ·clear HC
     have h3:(s[k].toNat:Int)<97:=by omega
     go_wp2
     go_round
     case rel=>exact ⟨k+1,by omega,by go_num,fun j hj=>by
      by_cases e:j=k
      ·subst e;exact HN.out
      ·exact hrel.out j (by omega)⟩
     case measure=>simp [intOf];omega
    ·clear HC
     have e1:((s[k].toNat:Int)==95)=true:=by simp;omega
     have h3:(s[k].toNat:Int)<97:=by omega
     have h4:57<(s[k].toNat:Int):=by omega
     clear h1
     go_wp2
     go_round
     case rel=>exact ⟨k+1,by omega,by go_num,fun j hj=>by
      by_cases e:j=k
      ·subst e;exact HN.out
      ·exact hrel.out j (by omega)⟩
     case measure=>simp [intOf];omega
   ·have HF:=Hm (named_no hlt hn)
    clear hn
    rcases hc with ⟨rfl,h1⟩|⟨rfl,h1⟩|⟨h0,h1⟩|⟨h0,h1,h2⟩|⟨h0,h1,h2⟩|⟨h0,h1⟩
    ·(try first|(have a1:97≤(s[0].toNat:Int):=by omega)|(have a1:(s[0].toNat:Int)<97:=by omega));(try first|(have a2:(s[0].toNat:Int)≤122:=by omega)|(have a2:122<(s[0].toNat:Int):=by omega));(try first|(have a3:48≤(s[0].toNat:Int):=by omega)|(have a3:(s[0].toNat:Int)<48:=by omega));(try first|(have a4:(s[0].toNat:Int)≤57:=by omega)|(have a4:57<(s[0].toNat:Int):=by omega));(try first|(have a1d:decide (97≤(s[0].toNat:Int))=true:=decide_eq_true (by omega))|(have a1d:decide (97≤(s[0].toNat:Int))=false:=decide_eq_false (by omega)));(try first|(have a2d:decide ((s[0].toNat:Int)≤122)=true:=decide_eq_true (by omega))|(have a2d:decide ((s[0].toNat:Int)≤122)=false:=decide_eq_false (by omega)));(try first|(have a3d:decide (48≤(s[0].toNat:Int))=true:=decide_eq_true (by omega))|(have a3d:decide (48≤(s[0].toNat:Int))=false:=decide_eq_false (by omega)));(try first|(have a4d:decide ((s[0].toNat:Int)≤57)=true:=decide_eq_true (by omega))|(have a4d:decide ((s[0].toNat:Int)≤57)=false:=decide_eq_false (by omega)))
     go_wp2
     all_goals
      go_ret
      exact ⟨ret_bool HF.out.symm,rfl⟩
    ·(try first|(have a1:97≤(s[0].toNat:Int):=by omega)|(have a1:(s[0].toNat:Int)<97:=by omega));(try first|(have a2:(s[0].toNat:Int)≤122:=by omega)|(have a2:122<(s[0].toNat:Int):=by omega));(try first|(have a3:48≤(s[0].toNat:Int):=by omega)|(have a3:(s[0].toNat:Int)<48:=by omega));(try first|(have a4:(s[0].toNat:Int)≤57:=by omega)|(have a4:57<(s[0].toNat:Int):=by omega));(try first|(have a1d:decide (97≤(s[0].toNat:Int))=true:=decide_eq_true (by omega))|(have a1d:decide (97≤(s[0].toNat:Int))=false:=decide_eq_false (by omega)));(try first|(have a2d:decide ((s[0].toNat:Int)≤122)=true:=decide_eq_true (by omega))|(have a2d:decide ((s[0].toNat:Int)≤122)=false:=decide_eq_false (by omega)));(try first|(have a3d:decide (48≤(s[0].toNat:Int))=true:=decide_eq_true (by omega))|(have a3d:decide (48≤(s[0].toNat:Int))=false:=decide_eq_false (by omega)));(try first|(have a4d:decide ((s[0].toNat:Int)≤57)=true:=decide_eq_true (by omega))|(have a4d:decide ((s[0].toNat:Int)≤57)=false:=decide_eq_false (by omega)))
     go_wp2
     all_goals
      go_ret
      exact ⟨ret_bool HF.out.symm,rfl⟩
    all_goals
     have e1:((s[k].toNat:Int)==95)=false:=by simp;omega
     (try first|(have a1:97≤(s[k].toNat:Int):=by omega)|(have a1:(s[k].toNat:Int)<97:=by omega));(try first|(have a2:(s[k].toNat:Int)≤122:=by omega)|(have a2:122<(s[k].toNat:Int):=by omega));(try first|(have a3:48≤(s[k].toNat:Int):=by omega)|(have a3:(s[k].toNat:Int)<48:=by omega));(try first|(have a4:(s[k].toNat:Int)≤57:=by omega)|(have a4:57<(s[k].toNat:Int):=by omega));(try first|(have a1d:decide (97≤(s[k].toNat:Int))=true:=decide_eq_true (by omega))|(have a1d:decide (97≤(s[k].toNat:Int))=false:=decide_eq_false (by omega)));(try first|(have a2d:decide ((s[k].toNat:Int)≤122)=true:=decide_eq_true (by omega))|(have a2d:decide ((s[k].toNat:Int)≤122)=false:=decide_eq_false (by omega)));(try first|(have a3d:decide (48≤(s[k].toNat:Int))=true:=decide_eq_true (by omega))|(have a3d:decide (48≤(s[k].toNat:Int))=false:=decide_eq_false (by omega)));(try first|(have a4d:decide ((s[k].toNat:Int)≤57)=true:=decide_eq_true (by omega))|(have a4d:decide ((s[k].toNat:Int)≤57)=false:=decide_eq_false (by omega)))
     go_wp2
     all_goals
      go_ret
      exact ⟨ret_bool HF.out.symm,rfl⟩
  ·have hkk:k=s.size:=by omega
   have HF:=Hm (named_yes (s:=s) fun j hj=>hrel.out j (by omega))
   subst hkk
   go_wp2
   go_ret
   exact ⟨ret_bool (by rw [HF.out];symm;rw [decide_eq_true_iff];omega),rfl⟩
def sameNm (c:Col) (o:Col):Bool:=decide (o.nm=c.nm)
theorem colf_any (o c:Col) (B:Nat) (w:World) (hc:w.cell? ⟨B,0,none⟩=some (.string c.nm)) (hB:B<w.heap.size):
 Calls Tryz.prog 140 #[.agg #[.string o.nm, .int .u8 o.ty, .bool o.key], .pointer (some ⟨B,0,none⟩)] w fun e w' =>e= .returned (.bool (sameNm c o))∧Ext w w' :=by
 go_enter Tryz.func140,Tryz.ntmps140
 go_wp2
 go_ret
 exact ⟨ret_bool (str_beq _ _),by exact eX⟩
def IdxPost {α:Type} (l:List α) (p:α→Bool) (w:World) (e:Ending) (w' :World):Prop:=∃i:Int,e= .returned (.int .i64 i)∧decide (0≤i)=l.any p∧Ext w w'
theorem any_at {α:Type} {l:List α} {p:α→Bool} {k:Nat} (hk:k<l.length) (h:p l[k]=true):l.any p=true:=List.any_eq_true.2 ⟨_,List.getElem_mem hk,h⟩
theorem any_none {α:Type} {l:List α} {p:α→Bool} (h:∀i (hi:i<l.length),p l[i]=false):l.any p=false:=by
 rw [List.any_eq_false]
 intro x hx
 obtain ⟨i,hi,rfl⟩:=List.getElem_of_mem hx
 simp [h i hi]
theorem colidx_any (l:List Col) (a:Option Addr) (n cap:Nat) (c:Col) (B:Nat) (w:World) (hn:l.length=n) (hl:Sl w (.slice a n cap) 3 (l.map Col.cells)) (hc:w.cell? ⟨B,0,none⟩=some (.string c.nm)) (hB:B<w.heap.size) (hlen:l.length≤1000):
 Calls Tryz.prog 169 #[.slice a n cap, .func (.func 140) #[] #[.pointer (some ⟨B,0,none⟩)]] w (IdxPost l (sameNm c) w):=by
 subst hn
 have HL:=Hm hl
 have HC:=Hm hc
 clear hl hc
 go_enter Tryz.func169,Tryz.ntmps169
 go_wp2
 go_loopw [8] (fun i wr=>∃k:Nat,k≤l.length∧i= .int .i64 k∧Hid (∀j (hj:j<l.length),j<k→sameNm c l[j]=false)∧Hid (Ext w wr)) (fun i _=>l.length - (intOf i).toNat)
 case atStart=>exact ⟨0,Nat.zero_le _,rfl,fun j _ h=>by omega,Ext.refl _⟩
 case round=>
  obtain ⟨k,hk,rfl,hrel,hE⟩:=hrel
  by_cases hlt:k<l.length
  ·obtain ⟨b,o,rfl,hb,hx⟩:=HL.out.at_ (i:=k) (by simpa using hlt)
   obtain ⟨f0,f1,f2⟩:=Col.at_ hlt hx hb hE.out
   have hbw:b<wr.heap.size:=Nat.lt_of_lt_of_le hb hE.out.size
   have HF:=Hm (fun W (h:Ext wr W)=>colf_any l[k] c B W ((hE.out.trans h).cells.1 B _ hB|>.trans HC.out) (Nat.lt_of_lt_of_le hB (hE.out.trans h).size))
   cases hq:sameNm c l[k] with
   |true=>
    rw [hq] at HF
    have HQ:=Hm (any_at hlt hq)
    clear hq hx
    go_wp2_with (go_at_call 140;refine (HF.out _ (by exact eX)).mono ?_;rintro e w1 ⟨rfl,hb1⟩)
    go_ret
    exact ⟨_,rfl,by rw [HQ.out];simp,hE.out.trans (by exact eX)⟩
   |false=>
    rw [hq] at HF
    have HQ:=Hm hq
    clear hq hx
    go_wp2_with (go_at_call 140;refine (HF.out _ (by exact eX)).mono ?_;rintro e w1 ⟨rfl,hb1⟩)
    go_roundw
    case rel=>exact ⟨k+1,by omega,by go_num,fun j hj hjk=>by
     by_cases e:j=k
     ·subst e;exact HQ.out
     ·exact hrel.out j hj (by omega),Hm (hE.out.trans (by exact eX))⟩
    case measure=>simp [intOf];omega
  ·have hkk:k=l.length:=by omega
   have HQ:=Hm (any_none (p:=sameNm c) fun j hj=>hrel.out j hj (by omega))
   subst hkk
   go_wp2
   go_ret
   exact ⟨_,rfl,by rw [HQ.out];simp,hE.out⟩
theorem colhas_any (l:List Col) (a:Option Addr) (n cap:Nat) (c:Col) (B:Nat) (w:World) (hn:l.length=n) (hl:Sl w (.slice a n cap) 3 (l.map Col.cells)) (hc:w.cell? ⟨B,0,none⟩=some (.string c.nm)) (hB:B<w.heap.size) (hlen:l.length≤1000):
 Calls Tryz.prog 139 #[.slice a n cap, .func (.func 140) #[] #[.pointer (some ⟨B,0,none⟩)]] w fun e w' =>e= .returned (.bool (l.any (sameNm c)))∧Ext w w' :=by
 have HI:=Hm (colidx_any l a n cap c B w hn hl hc hB hlen)
 clear hl hc
 go_enter Tryz.func139,Tryz.ntmps139
 go_wp2_with (go_at_call 169;refine HI.out.mono ?_;rintro e w1 ⟨i,rfl,hi,hb1⟩;have HI2:=Hm hi;clear hi)
 go_ret
 exact ⟨ret_bool HI2.out,hb1⟩
theorem column_any (c:Col) (l:List Col) (a:Option Addr) (n cap:Nat) (w:World) (hn:l.length=n) (hl:Sl w (.slice a n cap) 3 (l.map Col.cells)) (hlen:l.length≤1000) (hs:c.nm.size≤9223372036854775807):
 Calls Tryz.prog 100 #[.agg #[.string c.nm, .int .u8 c.ty, .bool c.key], .slice a n cap] w fun e w' =>e= .returned (.int .i64 (colE c l))∧Ext w w' :=by
 have HN:=Hm (fun w=>named_any c.nm w hs)
 have HH:=Hm (fun W (h:Ext w W) (B:Nat) hc hB=>colhas_any l a n cap c B W hn (hl.ext h) hc hB hlen)
 have HE:=Hm (show colE c l=if namedB c.nm=false then 3 else if l.any (sameNm c)=true then 9 else if c.ty<1∨6<c.ty then 11 else 0 from rfl)
 clear hl
 cases h1:namedB c.nm with
 |false=>
  rw [h1] at HN HE
  clear h1
  go_enter Tryz.func100,Tryz.ntmps100
  go_wp2_with (go_at_call 99;refine (HN.out _).mono ?_;rintro e w1 ⟨rfl,rfl⟩)
  go_ret
  exact ⟨ret_int (by rw [HE.out];simp),by exact eX⟩
 |true=>
  rw [h1] at HN HE
  clear h1
  cases h2:l.any (sameNm c) with
  |true=>
   rw [h2] at HH HE
   clear h2
   go_enter Tryz.func100,Tryz.ntmps100
   go_wp2_with (first
    |(go_at_call 99;refine (HN.out _).mono ?_;rintro e w1 ⟨rfl,rfl⟩)
    |(go_at_call 139;refine (HH.out _ (by exact eX) _ (by simp) (by simp)).mono ?_;rintro e w2 ⟨rfl,hb2⟩;have hE2:Ext w w2:=(by exact eX)))
   go_ret
   exact ⟨ret_int (by rw [HE.out];simp),hE2⟩
  |false=>
   rw [h2] at HH HE
   clear h2
   by_cases h3:c.ty<1
   ·have HR:=Hm (HE.out.trans (by rw [if_neg (by simp),if_neg (by simp),if_pos (.inl h3)]))
    clear HE
    go_enter Tryz.func100,Tryz.ntmps100
    go_wp2_with (first
     |(go_at_call 99;refine (HN.out _).mono ?_;rintro e w1 ⟨rfl,rfl⟩)
     |(go_at_call 139;refine (HH.out _ (by exact eX) _ (by simp) (by simp)).mono ?_;rintro e w2 ⟨rfl,hb2⟩;have hE2:Ext w w2:=(by exact eX);have hk:=((Blk.new w #[.string c.nm, .int .u8 c.ty, .bool c.key] 117).ext hb2).cell))
    go_ret
    exact ⟨ret_int HR.out.symm,hE2⟩
   ·by_cases h4:6<c.ty
    ·have HR:=Hm (HE.out.trans (by rw [if_neg (by simp),if_neg (by simp),if_pos (.inr h4)]))
     clear HE
     go_enter Tryz.func100,Tryz.ntmps100
     go_wp2_with (first
      |(go_at_call 99;refine (HN.out _).mono ?_;rintro e w1 ⟨rfl,rfl⟩)
      |(go_at_call 139;refine (HH.out _ (by exact eX) _ (by simp) (by simp)).mono ?_;rintro e w2 ⟨rfl,hb2⟩;have hE2:Ext w w2:=(by exact eX);have hk:=((Blk.new w #[.string c.nm, .int .u8 c.ty, .bool c.key] 117).ext hb2).cell))
     go_ret
     exact ⟨ret_int HR.out.symm,hE2⟩
    ·have HR:=Hm (HE.out.trans (by rw [if_neg (by simp),if_neg (by simp),if_neg (by omega)]))
     clear HE
     go_enter Tryz.func100,Tryz.ntmps100
     go_wp2_with (first
      |(go_at_call 99;refine (HN.out _).mono ?_;rintro e w1 ⟨rfl,rfl⟩)
      |(go_at_call 139;refine (HH.out _ (by exact eX) _ (by simp) (by simp)).mono ?_;rintro e w2 ⟨rfl,hb2⟩;have hE2:Ext w w2:=(by exact eX);have hk:=((Blk.new w #[.string c.nm, .int .u8 c.ty, .bool c.key] 117).ext hb2).cell))
     go_ret
     exact ⟨ret_int HR.out.symm,hE2⟩
open Go.RowKit Go.Shelf
attribute [local go_sem] Oper.semAt_some
abbrev KX (cols:List Col):= { x:Nat×Col // x.1<cols.length∧cols[x.1]? =some x.2∧x.2.key=true }
def keysUp (cols:List Col):Nat→List (KX cols)
 |0=> []
 |k+1=>if h:∃h:k<cols.length,cols[k].key=true then keysUp cols k++ [⟨(k,cols[k]'h.1),h.1,List.getElem?_eq_getElem h.1,h.2⟩] else keysUp cols k
theorem keysUp_yes {cols:List Col} {k:Nat} (hk:k<cols.length) (h:cols[k].key=true):keysUp cols (k+1)=keysUp cols k++ [⟨(k,cols[k]),hk,List.getElem?_eq_getElem hk,h⟩]:=by
 unfold keysUp
 rw [dif_pos ⟨hk,h⟩]
 cases k<;>rfl
theorem keysUp_no {cols:List Col} {k:Nat} (hk:k<cols.length) (h:cols[k].key=false):keysUp cols (k+1)=keysUp cols k:=by
 conv=>lhs;unfold keysUp
 rw [dif_neg (by rintro ⟨_,h2⟩;rw [h] at h2;cases h2)]
theorem keysUp_len {cols:List Col} :∀k,(keysUp cols k).length≤k
 |0=>Nat.le_refl _
 |k+1=>by
  have:=keysUp_len (cols:=cols) k
  unfold keysUp
  split
  ·rw [List.length_append,List.length_singleton];omega
  ·omega
theorem keysUp_mem {cols:List Col} :∀(k:Nat) (x:KX cols),x∈keysUp cols k↔x.1.1<k
 |0,x=>by simp [keysUp]
 |k+1,x=>by
  have ih:=keysUp_mem (cols:=cols) k x
  obtain ⟨⟨i,c⟩,hi,hc,hk⟩:=x
  simp only at*
  unfold keysUp
  split
  ·rename_i h
   rw [List.mem_append,ih,List.mem_singleton,Subtype.mk.injEq,Prod.mk.injEq]
   constructor
   ·rintro (h1|⟨rfl,_⟩)<;>omega
   ·intro h1
    by_cases e:i=k
    ·subst e;right;refine ⟨rfl, ?_⟩;rw [List.getElem?_eq_getElem hi] at hc;exact (Option.some.inj hc).symm
    ·left;omega
  ·rename_i h
   rw [ih]
   constructor
   ·intro h1;omega
   ·intro h1
    by_cases e:i=k
    ·subst e
     rw [List.getElem?_eq_getElem hi] at hc
     exact absurd ⟨hi,by rw [Option.some.inj hc];exact hk⟩ h
    ·omega
theorem keysUp_none {cols:List Col} :keysUp cols cols.length= []↔cols.any Col.key=false:=by
 constructor
 ·intro h
  rw [List.any_eq_false]
  intro c hc
  obtain ⟨i,hi,rfl⟩:=List.getElem_of_mem hc
  intro hk
  have:(⟨(i,cols[i]),hi,List.getElem?_eq_getElem hi,hk⟩:KX cols)∈keysUp cols cols.length:=(keysUp_mem _ _).2 hi
  rw [h] at this;cases this
 ·intro h
  rw [List.any_eq_false] at h
  rw [List.eq_nil_iff_forall_not_mem]
  rintro ⟨⟨i,c⟩,hi,hc,hk⟩ _
  exact h c (List.mem_of_getElem? hc) hk
def encK {cols:List Col} (x:KX cols):Array Value:= #[.int .i64 (x.1.1:Int), .agg #[.string x.1.2.nm, .int .u8 x.1.2.ty, .bool x.1.2.key]]
theorem keys1_in (F:Fence) (n:Nat) (hF:F.fn 170) (hro:F.round=none) (hn:1≤n) (l Bs:Nat) (w0:World) (a:Option Addr) (cap:Nat) (cols:List Col) (hlen:cols.length≤1000) (hl:Hid (Sl w0 (.slice a cols.length cap) 3 (cols.map Col.cells)))
 (J Jx:List (KX cols)→World→Prop) (W0:World) (hJ:Hid (AbidesFrom W0.heap.size J))
 (hY:Hid (∀pre x W,J pre W→pre.length<cols.length→YieldAt F (n - 1) Tryz.prog l (encK x) W fun e W' =>(e= .returned (.bool true)∧J (pre++ [x]) W'∧Below w0.heap.size W W')∨(e= .returned (.bool false)∧Jx (pre++ [x]) W')))
 (hE:Hid (Ext w0 W0)) (hBs:W0.cell? ⟨Bs,4,none⟩=some (.slice a cols.length cap)) (h0:Hid (J [] W0)):
 CallsIn F n Tryz.prog 170 #[.func (.yield l) #[] #[], .pointer (some ⟨Bs,0,none⟩)] W0 fun e W' =>(∃v,e= .returned v)∧
  ((∃ys,ys=keysUp cols cols.length∧J ys W')∨(∃pre,(∃k,k≤cols.length∧pre=keysUp cols k)∧Jx pre W')):=by
 refine callsIn_of_wp Tryz.func170 rfl hF ?_ hro
 simp only [Tryz.ntmps170,List.size_toArray,List.length_cons,List.length_nil,Nat.reduceAdd,Nat.reduceSub,Array.replicate_succ,Array.replicate_zero,List.push_toArray,List.append_toArray,List.nil_append,List.cons_append]
 gi_wp2
 gi_loopw [8] (fun i wr=>∃k:Nat,k≤cols.length∧i= .int .i64 k∧Hid (J (keysUp cols k) wr)∧Hid (Ext w0 wr)) (fun i _=>cols.length - (intOf i).toNat)
 case atStart=>exact ⟨0,Nat.zero_le _,rfl,h0,hE⟩
 case round=>
  obtain ⟨k,hk,rfl,hJs,hEw⟩:=hrel
  by_cases hlt:k<cols.length
  ·obtain ⟨b,o,rfl,hb,hx⟩:=hl.out.at_ (i:=k) (by simpa using hlt)
   obtain ⟨f0,f1,f2⟩:=Col.at_ hlt hx hb hEw.out
   have hJa:Hid (∀o:Obj,J (keysUp cols k) (wr.alloc o)):=Hm (fun o=>hJ.out _ _ _ none hJs.out (World.grownBy_alloc _ _ none) (by simp))
   clear hx
   cases hq:cols[k].key with
   |true=>
    obtain ⟨x,hu,hx2⟩:∃x:KX cols,keysUp cols (k+1)=keysUp cols k++ [x]∧x.1=(k,cols[k]):=⟨_,keysUp_yes hlt hq,rfl⟩
    have HU:=Hm hu
    obtain ⟨fn,tmps,assign,body,hy,hR⟩:=hY.out (keysUp cols k) x (wr.alloc (.cells #[.string cols[k].nm, .int .u8 cols[k].ty, .bool true] 117)) (hJa.out _) (by have:=keysUp_len (cols:=cols) k;omega)
    simp only [encK,hx2,hq] at hy
    rw [hq] at f2
    clear hq hu hx2
    gi_wp2
    refine hR.mono ?_
    rintro e W3 (⟨rfl,hJ3,hk3⟩|⟨rfl,hJx3⟩)
    ·gi_wp2
     go_roundw
     case rel=>exact ⟨k+1,by omega,by go_num,Hm (by rw [HU.out];exact hJ3),Hm (Below.trans (hEw.out.alloc _) hk3)⟩
     case measure=>simp [intOf];omega
    ·gi_wp2
     refine bodyPost_ret (results_none rfl _ _ _) rfl ?_
     exact ⟨⟨_,rfl⟩, .inr ⟨_,⟨k+1,by omega,HU.out.symm⟩,hJx3⟩⟩
   |false=>
    have HU:=Hm (keysUp_no hlt hq)
    rw [hq] at f2
    clear hq
    gi_wp2
    refine ⟨fun _ h=>(by cases h), ?_⟩
    gi_wp2
    go_roundw
    case rel=>exact ⟨k+1,by omega,by go_num,Hm (by rw [HU.out];exact hJa.out _),Hm (hEw.out.alloc _)⟩
    case measure=>simp [intOf];omega
  ·obtain rfl:k=cols.length:=by omega
   gi_wp2
   go_end0
   exact ⟨⟨_,rfl⟩, .inl ⟨_,rfl,hJs.out⟩⟩
theorem keys_stops (F:Fence) (n:Nat) (hF:F.fn 170) (hro:F.round=none) (hn:1≤n) (Bs:Nat) (w0:World) (a:Option Addr) (cap:Nat) (cols:List Col) (hlen:cols.length≤1000) (hl:Sl w0 (.slice a cols.length cap) 3 (cols.map Col.cells))
 (w:World) (hE:Ext w0 w) (hBs:w.cell? ⟨Bs,4,none⟩=some (.slice a cols.length cap)) (hB:Bs<w.heap.size):
 SeqStopsK F n Tryz.prog 170 #[.pointer (some ⟨Bs,0,none⟩)] (encK (cols:=cols)) (Below w0.heap.size) (fun ys=>ys=keysUp cols cols.length) (fun pre=>∃k,k≤cols.length∧pre=keysUp cols k) cols.length w:=fun l J Jx W hW hJ _ hY h0=>
 keys1_in F n hF hro hn l Bs w0 a cap cols hlen hl J Jx W hJ hY (Below.trans hE (hW.mono hE.size)) ((hW.cell (p:=⟨Bs,4,none⟩) hB).trans hBs) h0
theorem keys_in (F:Fence) (n:Nat) (hF:F.fn 141) (hro:F.round=none) (oid ver:Int) (nm:ByteArray) (id:Int) (v:Value) (w:World):
 CallsIn F n Tryz.prog 141 #[.agg #[.int .u32 oid, .int .u32 ver, .string nm, .int .u8 id,v]] w fun e w' =>e= .returned (.func (.func 170) #[] #[.pointer (some ⟨w.heap.size,0,none⟩)])∧w' =w.alloc (.cells #[.int .u32 oid, .int .u32 ver, .string nm, .int .u8 id,v] 120):=by
 refine callsIn_of_wp Tryz.func141 rfl hF ?_ hro
 simp only [Tryz.ntmps141,List.size_toArray,List.length_cons,List.length_nil,Nat.reduceAdd,Nat.reduceSub,Array.replicate_succ,Array.replicate_zero,List.push_toArray,List.append_toArray,List.nil_append,List.cons_append]
 gi_wp2
 go_ret
 exact ⟨rfl,rfl⟩
end Go.Proofs.YtodbhliidbclcaaGreat
namespace Go.Proofs.YtodbhliidbclcaaGreat
open Go.RowKit Go.Shelf
attribute [local go_sem] Oper.semAt_some
theorem fold_two (t:Array Value) (p q:Nat) (u v:Value):Array.foldl (fun t x=>t.setIfInBounds x.1 x.2) t (#[p,q].zip #[u,v])=(t.setIfInBounds p u).setIfInBounds q v:=by
 simp [List.zip_toArray]
theorem keysUp_any {cols:List Col} {k:Nat} (h:keysUp cols k≠ []):cols.any Col.key=true:=by
 rw [List.any_eq_true]
 obtain ⟨x,hx⟩:=List.exists_mem_of_ne_nil _ h
 obtain ⟨⟨i,c⟩,hi,hc,hk⟩:=x
 exact ⟨c,List.mem_of_getElem? hc,hk⟩
theorem keyed_in (F:Fence) (n:Nat) (h1F:F.fn 170) (hKF:F.fn 141) (hDF:F.fn 101) (hro:F.round=none) (hn:3≤n) (oid ver:Int) (nm:ByteArray) (id:Int) (cols:List Col) (a:Option Addr) (cap:Nat) (w:World) (hl:Sl w (.slice a cols.length cap) 3 (cols.map Col.cells)) (hlen:cols.length≤1000):
 CallsIn F n Tryz.prog 101 #[.agg #[.int .u32 oid, .int .u32 ver, .string nm, .int .u8 id, .slice a cols.length cap]] w fun e w' =>e= .returned (.bool (cols.any Col.key))∧Ext w w' :=by
 have h1:1≤n:=by omega
 have HL:=Hm hl
 clear hl
 refine callsIn_of_wp_marks Tryz.func101 rfl hDF ?_ hro
 simp only [Tryz.ntmps101,List.size_toArray,List.length_cons,List.length_nil,Nat.reduceAdd,Nat.reduceSub,Array.replicate_succ,Array.replicate_zero,List.push_toArray,List.append_toArray,List.nil_append,List.cons_append]
 gi_wp2_with (gi_at_call 141;refine (keys_in F (n - 1) hKF hro _ _ _ _ _ _).mono ?_;rintro e w' ⟨rfl,rfl⟩)
 have hE3:Ext w (((w.alloc (.cells #[.int .u32 oid, .int .u32 ver, .string nm, .int .u8 id, .slice a cols.length cap] 120)).alloc (.cells #[.bool false] 4)).alloc (.cells #[.int .u32 oid, .int .u32 ver, .string nm, .int .u8 id, .slice a cols.length cap] 120)):=((Ext.refl w).alloc _).alloc _|>.alloc _
 have hB1:Blk (((w.alloc (.cells #[.int .u32 oid, .int .u32 ver, .string nm, .int .u8 id, .slice a cols.length cap] 120)).alloc (.cells #[.bool false] 4)).alloc (.cells #[.int .u32 oid, .int .u32 ver, .string nm, .int .u8 id, .slice a cols.length cap] 120)) (w.heap.size+1) #[.bool false] 4:=(Blk.new' _ _ (by simp)).alloc _
 have hB2:Blk (((w.alloc (.cells #[.int .u32 oid, .int .u32 ver, .string nm, .int .u8 id, .slice a cols.length cap] 120)).alloc (.cells #[.bool false] 4)).alloc (.cells #[.int .u32 oid, .int .u32 ver, .string nm, .int .u8 id, .slice a cols.length cap] 120)) (w.heap.size+1+1) #[.int .u32 oid, .int .u32 ver, .string nm, .int .u8 id, .slice a cols.length cap] 120:=Blk.new' _ _ (by simp)
 refine wpIn_rangeFunc_ownG hro h1 (gf:=170) (lb:= #[.pointer (some ⟨w.heap.size+1+1,0,none⟩)]) rfl h1F (enters_of Tryz.func170 (by kernel_rfl) rfl)
  (keys_stops F (n - 1) h1F hro (by omega) (w.heap.size+1+1) w a cap cols hlen HL.out _ hE3 (hB2.cell 4) hB2.lt) belowK_t (belowK_b (by simp;omega)) (Below.refl _ _) (fun _=>rfl)
  (fun pre W=>(pre= []∧W.cell? ⟨w.heap.size+1,0,none⟩=some (.bool false)∧W.frozen? ⟨w.heap.size+1,0,none⟩=false)∧Below w.heap.size w W)
  (fun c pre W=>(c= .ret∧pre≠ []∧W.cell? ⟨w.heap.size+1,0,none⟩=some (.bool true))∧Below w.heap.size w W)
  (OwnFrom.and (Own.from (fun s A B row hs hg hr=>⟨hs.1,cell_kept hs.2.1 hg hr,(frozen_kept hs.2.1 hg hr).trans hs.2.2⟩) _) (ownFrom_below (Nat.le_refl _) (by simp;omega)))
  (fun c=>OwnFrom.and (Own.from (fun s A B row hs hg hr=>⟨hs.1,hs.2.1,cell_kept hs.2.2 hg hr⟩) _) (ownFrom_below (Nat.le_refl _) (by simp;omega)))
  ⟨⟨rfl,hB1.cell 0,hB1.frozen 0⟩,hE3⟩
  (fun x=> { tmps:= #[.agg #[.int .u32 oid, .int .u32 ver, .string nm, .int .u8 id, .slice a cols.length cap], .pointer (some ⟨w.heap.size,0,none⟩), .pointer (some ⟨w.heap.size+1,0,none⟩), .agg #[.int .u32 oid, .int .u32 ver, .string nm, .int .u8 id, .slice a cols.length cap], .func (.func 170) #[] #[.pointer (some ⟨w.heap.size+1+1,0,none⟩)], .int .i64 (x.1.1:Int), .agg #[.string x.1.2.nm, .int .u8 x.1.2.ty, .bool x.1.2.key]],defers:= [] }) ?assign ?body ?done ?stop
 case assign=>
  intro l x W K hK
  unfold encK
  rw [fold_two]
  gi_wp2
  exact hK
 case body=>
  rintro l pre x W ⟨⟨rfl,hc,hf⟩,hB⟩ _
  gi_wp2
  exact ⟨(KeepsOthers.setCell _ _ _).from _,⟨rfl,by simp,World.cell?_setCell_same' _ _ _ (by rw [hc];rfl)⟩,hB.setCell (p:=⟨w.heap.size+1,0,none⟩) (by simp) _⟩
 case done=>
  rintro D ys W hD hys ⟨⟨rfl,hc,hf⟩,hB⟩ hK
  gi_wp2
  have hK' :=(KeepsOthers.setCell W ⟨w.heap.size+1,0,none⟩ (.bool false)).same D _ hK rfl
  refine ⟨by simp, .inl ⟨_,_,rfl,run_takeDeferred hK', ?_⟩⟩
  have hc5:=cell_kept (World.cell?_setCell_same' W ⟨w.heap.size+1,0,none⟩ (.bool false) (by rw [hc];rfl)) (grownBy_putObj' _ D (.deferred none)) (fun r e=>by cases e;exact ⟨_,hK',rfl⟩)
  refine ⟨.bool false, ?_,by rw [keysUp_none.1 hys.symm],(hB.setCell (p:=⟨w.heap.size+1,0,none⟩) (by simp) _).trans (belowK_b (w:=w) (Nat.le_refl _) _ D _ _ (by simp at hD;omega) hK' rfl rfl)⟩
  simp [results,Tryz.f101,go_sem,hc5]
 case stop=>
  rintro D c pre W hD ⟨k,hk,rfl⟩ ⟨⟨rfl,hne,hc⟩,hB⟩ hK
  gi_wp2
  refine ⟨by simp, .inl ⟨_,_,rfl,run_takeDeferred hK, ?_⟩⟩
  have hc5:=cell_kept hc (grownBy_putObj' _ D (.deferred none)) (fun r e=>by cases e;exact ⟨_,hK,rfl⟩)
  refine ⟨.bool true, ?_,by rw [keysUp_any hne],hB.trans (belowK_b (w:=w) (Nat.le_refl _) W D _ _ (by simp at hD;omega) hK rfl rfl)⟩
  simp [results,Tryz.f101,go_sem,hc5]
theorem keyed_any (oid ver:Int) (nm:ByteArray) (id:Int) (cols:List Col) (a:Option Addr) (cap:Nat) (w:World) (hl:Sl w (.slice a cols.length cap) 3 (cols.map Col.cells)) (hlen:cols.length≤1000):
 Calls Tryz.prog 101 #[.agg #[.int .u32 oid, .int .u32 ver, .string nm, .int .u8 id, .slice a cols.length cap]] w fun e w' =>e= .returned (.bool (cols.any Col.key))∧Ext w w' :=
 callsIn_wide.1 (keyed_in Fence.wide 3 trivial trivial trivial rfl (Nat.le_refl _) oid ver nm id cols a cap w hl hlen)
end Go.Proofs.YtodbhliidbclcaaGreat
namespace Go.Proofs.YtodbhliidbclcaaGreat
open Go.RowKit
theorem Sl.take {w:World} {a:Option Addr} {n cap k:Nat} {xss:List (List Value)} (h:Sl w (.slice a n cap) k xss) {i:Nat} (hi:i≤xss.length):Sl w (.slice a i cap) k (xss.take i):=by
 obtain ⟨a',cap',hv,hs⟩:=h
 simp only [Value.slice.injEq] at hv
 obtain ⟨rfl, -,rfl⟩:=hv
 have hl:(xss.take i).length=i:=by rw [List.length_take];omega
 refine ⟨a,cap,by rw [hl], ?_⟩
 rcases hs with rfl|⟨b,o,rfl,hb,hc⟩
 ·left;simp
 ·refine .inr ⟨b,o,rfl,hb,fun j hj q hq=> ?_⟩
  rw [hl] at hj
  rw [hc j (by omega) q hq]
  simp [hj]
theorem Rl.right_cols {r:Rl} (h1:r.oid≠0) (h2:r.ver≠0) (h3:namedB r.nm=true) (h4:r.id≤2) (h5:1≤r.cols.length) (h6:r.cols.length≤16):
 r.right=if firstE (colAt r.cols) r.cols.length≠0 then firstE (colAt r.cols) r.cols.length else if r.id=1∧r.cols.any Col.key=false then 13 else 0:=by
 unfold Rl.right
 rw [if_neg (by omega),if_neg (by rw [h3];simp),if_neg (by omega),if_neg (by omega)]
theorem right8_any (oid ver:Int) (nm:ByteArray) (id:Int) (cols:List Col) (a:Option Addr) (cap:Nat) (w:World) (hl:Sl w (.slice a cols.length cap) 3 (cols.map Col.cells)) (hcap:cols.length≤cap) (hlen:cols.length≤1000)
 (hnm:nm.size≤9223372036854775807) (hcs:∀c∈cols,c.nm.size≤9223372036854775807):
 Calls Tryz.prog 75 #[.agg #[.int .u32 oid, .int .u32 ver, .string nm, .int .u8 id, .slice a cols.length cap]] w fun e w' =>e= .returned (.int .i64 (⟨oid,ver,nm,id,cols⟩:Rl).right)∧Ext w w' :=by
 have HN:=Hm (fun w=>named_any nm w hnm)
 have HK:=Hm (fun W (h:Ext w W)=>keyed_any oid ver nm id cols a cap W (hl.ext h) hlen)
 have HL:=Hm hl
 have HCS:=Hm hcs
 clear hl hcs
 by_cases h1:oid=0
 ·have HR:=Hm (show (⟨oid,ver,nm,id,cols⟩:Rl).right=4 by unfold Rl.right;rw [if_pos (.inl h1)])
  have e1:(oid==0)=true:=by simpa using h1
  clear h1
  go_enter Tryz.func75,Tryz.ntmps75
  go_wp2
  go_ret
  exact ⟨ret_int HR.out.symm,by exact eX⟩
 have e1:(oid==0)=false:=by simpa using h1
 by_cases h2:ver=0
 ·have HR:=Hm (show (⟨oid,ver,nm,id,cols⟩:Rl).right=4 by unfold Rl.right;rw [if_pos (.inr h2)])
  have e2:(ver==0)=true:=by simpa using h2
  clear h2 h1
  go_enter Tryz.func75,Tryz.ntmps75
  go_wp2
  go_ret
  exact ⟨ret_int HR.out.symm,by exact eX⟩
 have e2:(ver==0)=false:=by simpa using h2
 cases h3:namedB nm with
 |false=>
  have HR:=Hm (show (⟨oid,ver,nm,id,cols⟩:Rl).right=3 by unfold Rl.right;rw [if_neg (by simp only;omega),if_pos h3])
  rw [h3] at HN
  clear h3 h2 h1
  go_enter Tryz.func75,Tryz.ntmps75
  go_wp2_with (go_at_call 99;refine (HN.out _).mono ?_;rintro e w1 ⟨rfl,rfl⟩)
  go_ret
  exact ⟨ret_int HR.out.symm,by exact eX⟩
 |true=>
 by_cases h4:2<id
 ·have HR:=Hm (show (⟨oid,ver,nm,id,cols⟩:Rl).right=7 by unfold Rl.right;rw [if_neg (by simp only;omega),if_neg (by simp only [h3];simp),if_pos h4])
  rw [h3] at HN
  clear h3 h2 h1
  go_enter Tryz.func75,Tryz.ntmps75
  go_wp2_with (go_at_call 99;refine (HN.out _).mono ?_;rintro e w1 ⟨rfl,rfl⟩)
  go_ret
  exact ⟨ret_int HR.out.symm,by exact eX⟩
 by_cases h5:cols.length<1
 ·have HR:=Hm (show (⟨oid,ver,nm,id,cols⟩:Rl).right=17 by unfold Rl.right;rw [if_neg (by simp only;omega),if_neg (by simp only [h3];simp),if_neg (by simp only;omega),if_pos (.inl h5)])
  have h4' :id≤2:=by omega
  rw [h3] at HN
  clear h3 h2 h1
  go_enter Tryz.func75,Tryz.ntmps75
  go_wp2_with (go_at_call 99;refine (HN.out _).mono ?_;rintro e w1 ⟨rfl,rfl⟩)
  go_ret
  exact ⟨ret_int HR.out.symm,by exact eX⟩
 by_cases h6:16<cols.length
 ·have HR:=Hm (show (⟨oid,ver,nm,id,cols⟩:Rl).right=17 by unfold Rl.right;rw [if_neg (by simp only;omega),if_neg (by simp only [h3];simp),if_neg (by simp only;omega),if_pos (.inr h6)])
  have h4' :id≤2:=by omega
  have h5' :1≤cols.length:=by omega
  rw [h3] at HN
  clear h3 h2 h1
  go_enter Tryz.func75,Tryz.ntmps75
  go_wp2_with (go_at_call 99;refine (HN.out _).mono ?_;rintro e w1 ⟨rfl,rfl⟩)
  go_ret
  exact ⟨ret_int HR.out.symm,by exact eX⟩
 have HR:=Hm (Rl.right_cols (r:=(⟨oid,ver,nm,id,cols⟩:Rl)) h1 h2 h3 (by simp only;omega) (by simp only;omega) (by simp only;omega))
 simp only at HR
 rw [h3] at HN
 have h4' :id≤2:=by omega
 have h5' :1≤cols.length:=by omega
 have h6' :cols.length≤16:=by omega
 clear h3 h2 h1 h4 h5 h6
 go_enter Tryz.func75,Tryz.ntmps75
 go_wp2_with (go_at_call 99;refine (HN.out _).mono ?_;rintro e w1 ⟨rfl,rfl⟩)
 go_loopw [40] (fun i wr=>∃k:Nat,k≤cols.length∧i= .int .i64 k∧Hid (∀j,j<k→colAt cols j=0)∧Hid (Ext (w.alloc (.cells #[.int .u32 oid, .int .u32 ver, .string nm, .int .u8 id, .slice a cols.length cap] 120)) wr)) (fun i _=>cols.length - (intOf i).toNat)
 case atStart=>exact ⟨0,Nat.zero_le _,rfl,fun j h=>by omega,Ext.refl _⟩
 case round=>
  obtain ⟨k,hk,rfl,hrel,hE⟩:=hrel
  have hBx:=(Blk.new w #[.int .u32 oid, .int .u32 ver, .string nm, .int .u8 id, .slice a cols.length cap] 120).ext hE.out
  have g0:=hBx.cell
  have z0:=hBx.lt
  clear hBx
  by_cases hlt:k<cols.length
  ·obtain ⟨b,o,rfl,hb,hx⟩:=HL.out.at_ (i:=k) (by simpa using hlt)
   have hEw:Hid (Ext w wr):=Hm (((Ext.refl w).alloc _).trans hE.out)
   obtain ⟨f0,f1,f2⟩:=Col.at_ hlt hx hb hEw.out
   have hbw:b<wr.heap.size:=Nat.lt_of_lt_of_le hb hEw.out.size
   have HF:=Hm (fun W (h:Ext wr W)=>column_any cols[k] (cols.take k) (some ⟨b,o,none⟩) k cap W (by rw [List.length_take];omega) (by have:=(HL.out.ext (hEw.out.trans h)).take (i:=k) (by rw [List.length_map];omega);rwa [←List.map_take] at this) (by rw [List.length_take];omega) (HCS.out _ (List.getElem_mem hlt)))
   have hAt:=colAt_lt hlt
   have q1:(0:Int)≤(k:Int):=by omega
   have q2:(k:Int)≤(cap:Int):=by omega
   obtain ⟨E,hE0⟩:∃E,E=colE cols[k] (cols.take k):=⟨_,rfl⟩
   rw [←hE0] at HF hAt
   have HAt:=Hm hAt
   clear hx hAt hE0
   by_cases h0:E=0
   ·subst h0
    go_wp2
    go_region_held3 (fun w' =>Ext (wr.alloc (.cells #[.string cols[k].nm, .int .u8 cols[k].ty, .bool cols[k].key] 117)) w'∧(∀b o,b<(wr.alloc (.cells #[.string cols[k].nm, .int .u8 cols[k].ty, .bool cols[k].key] 117)).heap.size→w'.cell? ⟨b,o,none⟩=(wr.alloc (.cells #[.string cols[k].nm, .int .u8 cols[k].ty, .bool cols[k].key] 117)).cell? ⟨b,o,none⟩)∧(∀b o,b<(wr.alloc (.cells #[.string cols[k].nm, .int .u8 cols[k].ty, .bool cols[k].key] 117)).heap.size→w'.frozen? ⟨b,o,none⟩=(wr.alloc (.cells #[.string cols[k].nm, .int .u8 cols[k].ty, .bool cols[k].key] 117)).frozen? ⟨b,o,none⟩)) ((exact held_of (by exact eX)))
     (first
      |(go_at_call 100;refine (HF.out _ (by exact eX)).mono ?_;rintro e w2 ⟨rfl,hb2⟩))
    go_wp2
    go_roundw
    case rel=>exact ⟨k+1,by omega,by go_num,fun j hj=>by
     by_cases e:j=k
     ·subst e;exact HAt.out
     ·exact hrel.out j (by omega),Hm (hE.out.trans (by exact eX))⟩
    case measure=>simp [intOf];omega
   ·have h0' :(E !=0)=true:=by simpa using h0
    have HR2:=Hm (show (⟨oid,ver,nm,id,cols⟩:Rl).right=E by rw [HR.out,firstE_at hrel.out hlt (by rw [HAt.out];exact h0),HAt.out,if_pos h0])
    clear h0
    go_wp2
    go_region_held3 (fun w' =>Ext (wr.alloc (.cells #[.string cols[k].nm, .int .u8 cols[k].ty, .bool cols[k].key] 117)) w'∧(∀b o,b<(wr.alloc (.cells #[.string cols[k].nm, .int .u8 cols[k].ty, .bool cols[k].key] 117)).heap.size→w'.cell? ⟨b,o,none⟩=(wr.alloc (.cells #[.string cols[k].nm, .int .u8 cols[k].ty, .bool cols[k].key] 117)).cell? ⟨b,o,none⟩)∧(∀b o,b<(wr.alloc (.cells #[.string cols[k].nm, .int .u8 cols[k].ty, .bool cols[k].key] 117)).heap.size→w'.frozen? ⟨b,o,none⟩=(wr.alloc (.cells #[.string cols[k].nm, .int .u8 cols[k].ty, .bool cols[k].key] 117)).frozen? ⟨b,o,none⟩)) ((exact held_of (by exact eX)))
     (first
      |(go_at_call 100;refine (HF.out _ (by exact eX)).mono ?_;rintro e w2 ⟨rfl,hb2⟩))
    go_wp2
    go_ret
    exact ⟨ret_int HR2.out.symm,hEw.out.trans (by exact eX)⟩
  ·have hkk:k=cols.length:=by omega
   have hEw:Hid (Ext w wr):=Hm (((Ext.refl w).alloc _).trans hE.out)
   have HR2:=Hm (show (⟨oid,ver,nm,id,cols⟩:Rl).right=if id=1∧cols.any Col.key=false then 13 else 0 by rw [HR.out,firstE_zero (fun i hi=>hrel.out i (by omega)),if_neg (by simp)])
   subst hkk
   clear hrel HR
   by_cases h7:id=1
   ·subst h7
    cases h8:cols.any Col.key with
    |false=>
     rw [h8] at HK HR2
     clear h8
     go_wp2_with (go_at_call 101;refine (HK.out _ hEw.out).mono ?_;rintro e w2 ⟨rfl,hb2⟩)
     go_ret
     exact ⟨ret_int (by rw [HR2.out];simp),hEw.out.trans (by exact eX)⟩
    |true=>
     rw [h8] at HK HR2
     clear h8
     go_wp2_with (go_at_call 101;refine (HK.out _ hEw.out).mono ?_;rintro e w2 ⟨rfl,hb2⟩)
     go_ret
     exact ⟨ret_int (by rw [HR2.out];simp),hEw.out.trans (by exact eX)⟩
   ·have e7:(id==1)=false:=by simpa using h7
    have HR3:=Hm (HR2.out.trans (if_neg (fun h=>h7 h.1)))
    clear h7 HR2
    go_wp2
    go_ret
    exact ⟨ret_int HR3.out.symm,hEw.out⟩
theorem take_any_no {cols:List Col} {c:Col} {k:Nat} (h:∀i (hi:i<cols.length),i<k→cols[i].nm≠c.nm):(cols.take k).any (fun o=>decide (o.nm=c.nm))=false:=by
 refine any_none fun i hi=> ?_
 rw [List.length_take] at hi
 rw [List.getElem_take]
 exact decide_eq_false (h i (by omega) (by omega))
theorem take_any_yes {cols:List Col} {c:Col} {k j:Nat} (hj:j<cols.length) (hk:j<k) (h:cols[j].nm=c.nm):(cols.take k).any (fun o=>decide (o.nm=c.nm))=true:=by
 have hl:j<(cols.take k).length:=by rw [List.length_take];omega
 refine any_at (k:=j) hl ?_
 rw [List.getElem_take]
 exact decide_eq_true h
theorem take_key {cols:List Col} {k:Nat} (hk:k<cols.length):(cols.take (k+1)).any Col.key=((cols.take k).any Col.key||cols[k].key):=by
 rw [List.take_succ_eq_append_getElem hk,List.any_append];simp
theorem colE_un {c:Col} {l:List Col} (h:namedB c.nm=false):colE c l=3:=by unfold colE;rw [if_pos h]
theorem colE_ex {c:Col} {l:List Col} (h:namedB c.nm=true) (h2:l.any (fun o=>decide (o.nm=c.nm))=true):colE c l=9:=by unfold colE;rw [if_neg (by rw [h];simp),if_pos h2]
theorem colE_ty {c:Col} {l:List Col} (h:namedB c.nm=true) (h2:l.any (fun o=>decide (o.nm=c.nm))=false) (h3:c.ty<1∨6<c.ty):colE c l=11:=by unfold colE;rw [if_neg (by rw [h];simp),if_neg (by rw [h2];simp),if_pos h3]
theorem colE_ok {c:Col} {l:List Col} (h:namedB c.nm=true) (h2:l.any (fun o=>decide (o.nm=c.nm))=false) (h3: ¬ (c.ty<1∨6<c.ty)):colE c l=0:=by unfold colE;rw [if_neg (by rw [h];simp),if_neg (by rw [h2];simp),if_neg h3]
theorem rright8_big (oid ver:Int) (nm:ByteArray) (id:Int) (cols:List Col) (a:Option Addr) (cap:Nat) (w:World) (hl:Sl w (.slice a cols.length cap) 3 (cols.map Col.cells)) (hlen:cols.length≤9223372036854775807)
 (hnm:nm.size≤9223372036854775807) (hcs:∀c∈cols,c.nm.size≤9223372036854775807):
 Calls Tryz.prog 57 #[.agg #[.int .u32 oid, .int .u32 ver, .string nm, .int .u8 id, .slice a cols.length cap]] w fun e w' =>e= .returned (.int .i64 (⟨oid,ver,nm,id,cols⟩:Rl).right)∧Ext w w' :=by
 have HN:=Hm (fun w=>rnamed_any nm w hnm)
 have HL:=Hm hl
 have HCS:=Hm hcs
 clear hl hcs
 by_cases h1:oid=0
 ·have HR:=Hm (show (⟨oid,ver,nm,id,cols⟩:Rl).right=4 by unfold Rl.right;rw [if_pos (.inl h1)])
  have e1:(oid==0)=true:=by simpa using h1
  clear h1
  go_enter Tryz.func57,Tryz.ntmps57
  go_wp2
  go_ret
  exact ⟨ret_int HR.out.symm,by exact eX⟩
 have e1:(oid==0)=false:=by simpa using h1
 by_cases h2:ver=0
 ·have HR:=Hm (show (⟨oid,ver,nm,id,cols⟩:Rl).right=4 by unfold Rl.right;rw [if_pos (.inr h2)])
  have e2:(ver==0)=true:=by simpa using h2
  clear h2 h1
  go_enter Tryz.func57,Tryz.ntmps57
  go_wp2
  go_ret
  exact ⟨ret_int HR.out.symm,by exact eX⟩
 have e2:(ver==0)=false:=by simpa using h2
 cases h3:namedB nm with
 |false=>
  have HR:=Hm (show (⟨oid,ver,nm,id,cols⟩:Rl).right=3 by unfold Rl.right;rw [if_neg (by simp only;omega),if_pos h3])
  rw [h3] at HN
  clear h3 h2 h1
  go_enter Tryz.func57,Tryz.ntmps57
  go_wp2_with (go_at_call 86;refine (HN.out _).mono ?_;rintro e w1 ⟨rfl,rfl⟩)
  go_ret
  exact ⟨ret_int HR.out.symm,by exact eX⟩
 |true=>
 by_cases h4:2<id
 ·have HR:=Hm (show (⟨oid,ver,nm,id,cols⟩:Rl).right=7 by unfold Rl.right;rw [if_neg (by simp only;omega),if_neg (by simp only [h3];simp),if_pos h4])
  rw [h3] at HN
  clear h3 h2 h1
  go_enter Tryz.func57,Tryz.ntmps57
  go_wp2_with (go_at_call 86;refine (HN.out _).mono ?_;rintro e w1 ⟨rfl,rfl⟩)
  go_ret
  exact ⟨ret_int HR.out.symm,by exact eX⟩
 by_cases h5:cols.length<1
 ·have HR:=Hm (show (⟨oid,ver,nm,id,cols⟩:Rl).right=17 by unfold Rl.right;rw [if_neg (by simp only;omega),if_neg (by simp only [h3];simp),if_neg (by simp only;omega),if_pos (.inl h5)])
  have h4' :id≤2:=by omega
  have hz:(((cols.length:Nat):Int)==0)=true:=by simp;exact List.length_eq_zero_iff.1 (by omega)
  rw [h3] at HN
  clear h3 h2 h1
  go_enter Tryz.func57,Tryz.ntmps57
  go_wp2_with (go_at_call 86;refine (HN.out _).mono ?_;rintro e w1 ⟨rfl,rfl⟩)
  go_ret
  exact ⟨ret_int HR.out.symm,by exact eX⟩
 have hz:(((cols.length:Nat):Int)==0)=false:=by
  simp;rintro rfl;simp at h5
 by_cases h6:16<cols.length
 ·have HR:=Hm (show (⟨oid,ver,nm,id,cols⟩:Rl).right=17 by unfold Rl.right;rw [if_neg (by simp only;omega),if_neg (by simp only [h3];simp),if_neg (by simp only;omega),if_pos (.inr h6)])
  have h4' :id≤2:=by omega
  rw [h3] at HN
  clear h3 h2 h1
  go_enter Tryz.func57,Tryz.ntmps57
  go_wp2_with (go_at_call 86;refine (HN.out _).mono ?_;rintro e w1 ⟨rfl,rfl⟩)
  go_ret
  exact ⟨ret_int HR.out.symm,by exact eX⟩
 have HR:=Hm (Rl.right_cols (r:=(⟨oid,ver,nm,id,cols⟩:Rl)) h1 h2 h3 (by simp only;omega) (by simp only;omega) (by simp only;omega))
 simp only at HR
 rw [h3] at HN
 have h4' :id≤2:=by omega
 have h6' :cols.length≤16:=by omega
 clear h3 h2 h1 h4 h5 h6
 go_enter Tryz.func57,Tryz.ntmps57
 go_wp2_with (go_at_call 86;refine (HN.out _).mono ?_;rintro e w1 ⟨rfl,rfl⟩)
 go_loopw [3,4] (fun q i wr=>∃k:Nat,k≤cols.length∧i= .int .i64 k∧(∃B:Bool,q= .bool B∧Hid ((cols.take k).any Col.key=B))∧Hid (∀j,j<k→colAt cols j=0)∧Hid (Ext (w.alloc (.cells #[.int .u32 oid, .int .u32 ver, .string nm, .int .u8 id, .slice a cols.length cap] 77)) wr)) (fun _ i _=>cols.length - (intOf i).toNat)
 case atStart=>exact ⟨0,Nat.zero_le _,rfl,⟨false,rfl,by show List.any _ _=_;simp⟩,fun j h=>by omega,Ext.refl _⟩
 case round=>
  obtain ⟨k,hk,rfl,⟨B,rfl,hKB⟩,hrel,hE⟩:=hrel
  have HRL:=hrel
  have hBx:=(Blk.new w #[.int .u32 oid, .int .u32 ver, .string nm, .int .u8 id, .slice a cols.length cap] 77).ext hE.out
  have g0:=hBx.cell
  have z0:=hBx.lt
  have HBx:=Hm hBx
  clear hBx
  by_cases hlt:k<cols.length
  ·obtain ⟨b,o,rfl,hb,hx⟩:=HL.out.at_ (i:=k) (by simpa using hlt)
   have hEw:Hid (Ext w wr):=Hm (((Ext.refl w).alloc _).trans hE.out)
   obtain ⟨f0,f1,f2⟩:=Col.at_ hlt hx hb hEw.out
   have hbw:b<wr.heap.size:=Nat.lt_of_lt_of_le hb hEw.out.size
   have hAt:=colAt_lt hlt
   have HNC:=Hm (fun w=>rnamed_any cols[k].nm w (HCS.out _ (List.getElem_mem hlt)))
   have HTK:=Hm (take_key hlt)
   obtain ⟨c,hc⟩:∃c,c=cols[k]:=⟨_,rfl⟩
   rw [←hc] at f0 f1 f2 hAt HNC HTK
   have HAt:=Hm hAt
   have HC:=Hm hc
   clear hx hAt hc
   cases hnc:namedB c.nm with
   |false=>
    rw [hnc] at HNC
    have HR2:=Hm (show (⟨oid,ver,nm,id,cols⟩:Rl).right=3 by rw [HR.out,firstE_at hrel.out hlt (by rw [HAt.out,colE_un hnc];decide),HAt.out,colE_un hnc];simp)
    clear hnc
    go_wp2_with (go_at_call 86;refine (HNC.out _).mono ?_;rintro e w1 ⟨rfl,rfl⟩)
    go_ret
    exact ⟨ret_int HR2.out.symm,hEw.out.trans (by exact eX)⟩
   |true=>
    rw [hnc] at HNC
    have HNM:=Hm hnc
    clear hnc
    go_wp2_with (go_at_call 86;refine (HNC.out _).mono ?_;rintro e w1 ⟨rfl,rfl⟩)
    obtain ⟨wo,rfl⟩:∃wo:World,wo=wr:=⟨_,rfl⟩
    go_loopw [6] (fun m wr=>∃j:Nat,j≤k∧m= .int .i64 j∧Hid (∀i (hi:i<cols.length),i<j→cols[i].nm≠c.nm)∧Hid (Ext (wo.alloc (.cells #[.string c.nm, .int .u8 c.ty, .bool c.key] 128)) wr)) (fun m _=>k - (intOf m).toNat)
    case atStart=>exact ⟨0,Nat.zero_le _,rfl,fun i _ h=>by omega,Ext.refl _⟩
    case round=>
     obtain ⟨j,hj,rfl,hno,hEi⟩:=hrel
     have hEri:Hid (Ext wo wr):=Hm (((Ext.refl wo).alloc _).trans hEi.out)
     have hBi:=HBx.out.ext hEri.out
     have gi:=hBi.cell
     have zi:=hBi.lt
     have hCi:=(Blk.new wo #[.string c.nm, .int .u8 c.ty, .bool c.key] 128).ext hEi.out
     have ci:=hCi.cell
     have yi:=hCi.lt
     clear hBi hCi
     by_cases hjk:j<k
     ·have hjl:j<cols.length:=by omega
      obtain ⟨b2,o2,e2,hb2,hx2⟩:=HL.out.at_ (i:=j) (by simpa using hjl)
      obtain ⟨rfl,rfl⟩:b2=b∧o2=o:=by simp at e2;exact ⟨e2.1.symm,e2.2.symm⟩
      obtain ⟨p0,p1,p2⟩:=Col.at_ hjl hx2 hb2 (hEw.out.trans hEri.out)
      have hbi:b2<wr.heap.size:=Nat.lt_of_lt_of_le hbw hEri.out.size
      clear e2 hx2
      by_cases hnn:cols[j].nm=c.nm
      ·have hEq:(cols[j].nm.toList==c.nm.toList)=true:=by rw [str_beq];exact decide_eq_true hnn
       have hAl:=take_any_yes hjl hjk hnn
       have HR2:=Hm (show (⟨oid,ver,nm,id,cols⟩:Rl).right=9 by rw [HR.out,firstE_at HRL.out hlt (by rw [HAt.out,colE_ex HNM.out hAl];decide),HAt.out,colE_ex HNM.out hAl];simp)
       clear hnn hAl
       go_wp2
       go_region_held3 (fun w' =>Ext (wr) w'∧(∀b o,b<(wr).heap.size→w'.cell? ⟨b,o,none⟩=(wr).cell? ⟨b,o,none⟩)∧(∀b o,b<(wr).heap.size→w'.frozen? ⟨b,o,none⟩=(wr).frozen? ⟨b,o,none⟩)) ((exact held_of (by exact eX))) (fail)
       go_wp2
       go_ret
       exact ⟨ret_int HR2.out.symm,(hEw.out.trans hEri.out).trans (by exact eX)⟩
      ·have hEq:(cols[j].nm.toList==c.nm.toList)=false:=by rw [str_beq];exact decide_eq_false hnn
       have HNN:=Hm hnn
       clear hnn
       go_wp2
       go_region_held3 (fun w' =>Ext (wr) w'∧(∀b o,b<(wr).heap.size→w'.cell? ⟨b,o,none⟩=(wr).cell? ⟨b,o,none⟩)∧(∀b o,b<(wr).heap.size→w'.frozen? ⟨b,o,none⟩=(wr).frozen? ⟨b,o,none⟩)) ((exact held_of (by exact eX))) (fail)
       go_wp2
       go_roundw
       case rel=>exact ⟨j+1,by omega,by go_num,fun i hi hij=>by
        by_cases e:i=j
        ·subst e;exact HNN.out
        ·exact hno.out i hi (by omega),Hm (hEi.out.trans (by exact eX))⟩
       case measure=>simp [intOf];omega
     ·obtain rfl:j=k:=by omega
      have HNO:=Hm (take_any_no hno.out)
      by_cases ht:c.ty<1∨6<c.ty
      ·have HR2:=Hm (show (⟨oid,ver,nm,id,cols⟩:Rl).right=11 by rw [HR.out,firstE_at HRL.out hlt (by rw [HAt.out,colE_ty HNM.out HNO.out ht];decide),HAt.out,colE_ty HNM.out HNO.out ht];simp)
       rcases ht with ht|ht
       all_goals
        (try have ht1:1≤c.ty:=by omega)
        go_wp2
        go_ret
        exact ⟨ret_int HR2.out.symm,(hEw.out.trans hEri.out).trans (by exact eX)⟩
      ·have ht1:1≤c.ty:=by omega
       have ht2:c.ty≤6:=by omega
       have HA0:=Hm (HAt.out.trans (colE_ok HNM.out HNO.out ht))
       clear ht
       cases B
       all_goals
        go_wp2
        go_roundw
        case rel=>exact ⟨j+1,by omega,by go_num,⟨_,rfl,by show List.any _ _=_;rw [HTK.out,hKB.out];simp⟩,fun i hi=>by
         by_cases e:i=j
         ·subst e;exact HA0.out
         ·exact HRL.out i (by omega),Hm ((hE.out.trans hEri.out).trans (by exact eX))⟩
        case measure=>simp [intOf];omega
  ·have hkk:k=cols.length:=by omega
   have hEw:Hid (Ext w wr):=Hm (((Ext.refl w).alloc _).trans hE.out)
   have HR2:=Hm (show (⟨oid,ver,nm,id,cols⟩:Rl).right=if id=1∧cols.any Col.key=false then 13 else 0 by rw [HR.out,firstE_zero (fun i hi=>hrel.out i (by omega)),if_neg (by simp)])
   subst hkk
   rw [List.take_length] at hKB
   rw [hKB.out] at HR2
   clear hrel HR
   by_cases h7:id=1
   ·subst h7
    cases B
    all_goals
     go_wp2
     go_ret
     exact ⟨ret_int (by rw [HR2.out];simp),hEw.out⟩
   ·have e7:(id==1)=false:=by simpa using h7
    have HR3:=Hm (HR2.out.trans (if_neg (fun h=>h7 h.1)))
    clear h7 HR2
    go_wp2
    go_ret
    exact ⟨ret_int HR3.out.symm,hEw.out⟩
theorem rright8_any (oid ver:Int) (nm:ByteArray) (id:Int) (cols:List Col) (a:Option Addr) (cap:Nat) (w:World) (hl:Sl w (.slice a cols.length cap) 3 (cols.map Col.cells)) (hlen:cols.length≤1000)
 (hnm:nm.size≤9223372036854775807) (hcs:∀c∈cols,c.nm.size≤9223372036854775807):
 Calls Tryz.prog 57 #[.agg #[.int .u32 oid, .int .u32 ver, .string nm, .int .u8 id, .slice a cols.length cap]] w fun e w' =>e= .returned (.int .i64 (⟨oid,ver,nm,id,cols⟩:Rl).right)∧Ext w w' :=
 rright8_big oid ver nm id cols a cap w hl (by omega) hnm hcs
theorem rtexty_yes (kind:Int) (w:World) (h:kind=5∨kind=6):Calls Tryz.prog 117 #[.int .u8 kind] w fun e w' =>e= .returned (.bool true)∧w=w' :=by
 rcases h with rfl|rfl
 all_goals
  go_enter Tryz.func117,Tryz.ntmps117
  go_wp2
  go_ret
  exact ⟨rfl,rfl⟩
theorem rtexty_no (kind:Int) (w:World) (h:kind≠5∧kind≠6):Calls Tryz.prog 117 #[.int .u8 kind] w fun e w' =>e= .returned (.bool false)∧w=w' :=by
 have h5:(kind==5)=false:=by simpa using h.1
 have h6:(kind==6)=false:=by simpa using h.2
 clear h
 go_enter Tryz.func117,Tryz.ntmps117
 go_wp2
 go_ret
 exact ⟨rfl,rfl⟩
def fitAt (l:List K) (cols:List Col) (i:Nat):Int:=if h:i<l.length∧i<cols.length then (l[i]'h.1).right (cols[i]'h.2).ty else 0
theorem fitAt_lt {l:List K} {cols:List Col} {i:Nat} (h:i<l.length) (h2:i<cols.length):fitAt l cols i=l[i].right cols[i].ty:=by unfold fitAt;rw [dif_pos ⟨h,h2⟩]
def fitsE (l:List K) (r:Rl):Int:=if r.right≠0 then r.right else if l.length≠r.cols.length then 17 else firstE (fitAt l r.cols) l.length
structure K.wk (c:K):Prop where
 k:0≤c.k
 s:c.v.s.size≤9223372036854775807
theorem fits_any (l:List K) (a:Option Addr) (cap:Nat) (oid ver:Int) (nm:ByteArray) (id:Int) (cols:List Col) (a2:Option Addr) (cap2:Nat) (w:World) (hl:Sl w (.slice a l.length cap) 5 (l.map K.pc)) (hl2:Sl w (.slice a2 cols.length cap2) 3 (cols.map Col.cells))
 (hcap2:cols.length≤cap2) (_hlen:l.length≤1000) (hlen2:cols.length≤1000) (hs:∀c∈l,c.wk) (hs2:∀c∈cols,c.nm.size≤9223372036854775807) (hnm:nm.size≤9223372036854775807):
 Calls Tryz.prog 134 #[.slice a l.length cap, .agg #[.int .u32 oid, .int .u32 ver, .string nm, .int .u8 id, .slice a2 cols.length cap2]] w fun e w' =>e= .returned (.int .i64 (fitsE l (⟨oid,ver,nm,id,cols⟩:Rl)))∧Ext w w' :=by
 have HR:=Hm (fun W (h:Ext w W)=>right8_any oid ver nm id cols a2 cap2 W (hl2.ext h) hcap2 hlen2 hnm hs2)
 have HF:Hid (fitsE l (⟨oid,ver,nm,id,cols⟩:Rl)=if (⟨oid,ver,nm,id,cols⟩:Rl).right≠0 then (⟨oid,ver,nm,id,cols⟩:Rl).right else if l.length≠cols.length then 17 else firstE (fitAt l cols) l.length):=Hm rfl
 have HL:=Hm hl
 have HL2:=Hm hl2
 have HS:=Hm hs
 clear hl hl2 hs hs2
 generalize (⟨oid,ver,nm,id,cols⟩:Rl).right=E at*
 by_cases h0:E=0
 case neg=>
  have HF2:=Hm (HF.out.trans (if_pos h0))
  have h0' :(E !=0)=true:=by simpa using h0
  clear h0 HF
  go_enter Tryz.func134,Tryz.ntmps134
  go_wp2_with (go_at_call 75;refine (HR.out _ (by exact eX)).mono ?_;rintro e w1 ⟨rfl,hb1⟩;have hE1:Ext w w1:=(by exact eX))
  go_ret
  exact ⟨ret_int HF2.out.symm,hE1⟩
 subst h0
 have HF2:=Hm (HF.out.trans (if_neg (by simp)))
 clear HF
 by_cases hn:l.length=cols.length
 case neg=>
  have HF3:=Hm (HF2.out.trans (if_pos hn))
  have hn' :(((l.length:Nat):Int) !=((cols.length:Nat):Int))=true:=by simp;omega
  clear hn HF2
  go_enter Tryz.func134,Tryz.ntmps134
  go_wp2_with (go_at_call 75;refine (HR.out _ (by exact eX)).mono ?_;rintro e w1 ⟨rfl,hb1⟩;have hE1:Ext w w1:=(by exact eX);have g0:=((Blk.new w #[.int .u32 oid, .int .u32 ver, .string nm, .int .u8 id, .slice a2 cols.length cap2] 120).ext hb1).cell)
  go_ret
  exact ⟨ret_int HF3.out.symm,hE1⟩
 have HF3:=Hm (HF2.out.trans (if_neg (by simpa using hn)))
 have hn' :(((l.length:Nat):Int) !=((cols.length:Nat):Int))=false:=by simp;omega
 have hnl:l.length≤cols.length:=by omega
 clear HF2
 have HNE:=Hm hn
 clear hn
 go_enter Tryz.func134,Tryz.ntmps134
 go_wp2_with (go_at_call 75;refine (HR.out _ (by exact eX)).mono ?_;rintro e w1 ⟨rfl,hb1⟩;have hE1:=Hm hb1;have g0:=((Blk.new w #[.int .u32 oid, .int .u32 ver, .string nm, .int .u8 id, .slice a2 cols.length cap2] 120).ext hb1).cell;clear hb1)
 go_loopw [22] (fun i wr=>∃k:Nat,k≤l.length∧i= .int .i64 k∧Hid (∀j,j<k→fitAt l cols j=0)∧Hid (Ext (w.alloc (.cells #[.int .u32 oid, .int .u32 ver, .string nm, .int .u8 id, .slice a2 cols.length cap2] 120)) wr)) (fun i _=>l.length - (intOf i).toNat)
 case atStart=>exact ⟨0,Nat.zero_le _,rfl,fun j h=>by omega,hE1⟩
 case round=>
  obtain ⟨k,hk,rfl,hrel,hE⟩:=hrel
  have hEw:Hid (Ext w wr):=Hm (((Ext.refl w).alloc _).trans hE.out)
  by_cases hlt:k<l.length
  ·have hlt2:k<cols.length:=by omega
   have hBx:=(Blk.new w #[.int .u32 oid, .int .u32 ver, .string nm, .int .u8 id, .slice a2 cols.length cap2] 120).ext hE.out
   have g0:=hBx.cell
   have z0:=hBx.lt
   obtain ⟨b,o,rfl,hb,hx⟩:=HL.out.at_ (i:=k) (by simpa using hlt)
   obtain ⟨f0,f1,f2,f3,f4⟩:=K.pcAt hlt hx hb hEw.out
   obtain ⟨b2,o2,rfl,hb2,hx2⟩:=HL2.out.at_ (i:=k) (by simpa using hlt2)
   obtain ⟨p0,p1,p2⟩:=Col.at_ hlt2 hx2 hb2 hEw.out
   have hbw:b<wr.heap.size:=Nat.lt_of_lt_of_le hb hEw.out.size
   have hbw2:b2<wr.heap.size:=Nat.lt_of_lt_of_le hb2 hEw.out.size
   have hwk:=HS.out _ (List.getElem_mem hlt)
   have HC:=Hm (fun W=>cright_any l[k].k l[k].v.ty l[k].v.n l[k].v.x l[k].v.y l[k].v.s cols[k].ty W hwk.k hwk.s)
   have hAt:=fitAt_lt hlt hlt2
   unfold K.right at hAt
   obtain ⟨E,hE0⟩:∃E,E=rightC l[k].k l[k].v.ty l[k].v.n l[k].v.x l[k].v.y l[k].v.s cols[k].ty:=⟨_,rfl⟩
   rw [←hE0] at HC hAt
   have HAt:=Hm hAt
   clear hx hx2 hAt hE0 hBx hwk
   by_cases h0:E=0
   ·subst h0
    go_wp2
    go_region_held3 (fun w' =>Ext (wr.alloc (.cells #[.int .u8 l[k].k, .int .u8 l[k].v.ty, .int .i64 l[k].v.n, .complex .f64 l[k].v.x l[k].v.y, .string l[k].v.s] 157)) w'∧(∀b o,b<(wr.alloc (.cells #[.int .u8 l[k].k, .int .u8 l[k].v.ty, .int .i64 l[k].v.n, .complex .f64 l[k].v.x l[k].v.y, .string l[k].v.s] 157)).heap.size→w'.cell? ⟨b,o,none⟩=(wr.alloc (.cells #[.int .u8 l[k].k, .int .u8 l[k].v.ty, .int .i64 l[k].v.n, .complex .f64 l[k].v.x l[k].v.y, .string l[k].v.s] 157)).cell? ⟨b,o,none⟩)∧(∀b o,b<(wr.alloc (.cells #[.int .u8 l[k].k, .int .u8 l[k].v.ty, .int .i64 l[k].v.n, .complex .f64 l[k].v.x l[k].v.y, .string l[k].v.s] 157)).heap.size→w'.frozen? ⟨b,o,none⟩=(wr.alloc (.cells #[.int .u8 l[k].k, .int .u8 l[k].v.ty, .int .i64 l[k].v.n, .complex .f64 l[k].v.x l[k].v.y, .string l[k].v.s] 157)).frozen? ⟨b,o,none⟩)) ((exact held_of (by exact eX)))
     (first
      |(go_at_call 166;refine (HC.out _).mono ?_;rintro e w2 ⟨rfl,hb2'⟩))
    go_wp2
    go_roundw
    case rel=>exact ⟨k+1,by omega,by go_num,fun j hj=>by
     by_cases e:j=k
     ·subst e;exact HAt.out
     ·exact hrel.out j (by omega),Hm (hE.out.trans (by exact eX))⟩
    case measure=>simp [intOf];omega
   ·have h0' :(E !=0)=true:=by simpa using h0
    have HR2:=Hm (HF3.out.trans (show firstE (fitAt l cols) l.length=E by rw [firstE_at hrel.out hlt (by rw [HAt.out];exact h0),HAt.out]))
    clear h0
    go_wp2
    go_region_held3 (fun w' =>Ext (wr.alloc (.cells #[.int .u8 l[k].k, .int .u8 l[k].v.ty, .int .i64 l[k].v.n, .complex .f64 l[k].v.x l[k].v.y, .string l[k].v.s] 157)) w'∧(∀b o,b<(wr.alloc (.cells #[.int .u8 l[k].k, .int .u8 l[k].v.ty, .int .i64 l[k].v.n, .complex .f64 l[k].v.x l[k].v.y, .string l[k].v.s] 157)).heap.size→w'.cell? ⟨b,o,none⟩=(wr.alloc (.cells #[.int .u8 l[k].k, .int .u8 l[k].v.ty, .int .i64 l[k].v.n, .complex .f64 l[k].v.x l[k].v.y, .string l[k].v.s] 157)).cell? ⟨b,o,none⟩)∧(∀b o,b<(wr.alloc (.cells #[.int .u8 l[k].k, .int .u8 l[k].v.ty, .int .i64 l[k].v.n, .complex .f64 l[k].v.x l[k].v.y, .string l[k].v.s] 157)).heap.size→w'.frozen? ⟨b,o,none⟩=(wr.alloc (.cells #[.int .u8 l[k].k, .int .u8 l[k].v.ty, .int .i64 l[k].v.n, .complex .f64 l[k].v.x l[k].v.y, .string l[k].v.s] 157)).frozen? ⟨b,o,none⟩)) ((exact held_of (by exact eX)))
     (first
      |(go_at_call 166;refine (HC.out _).mono ?_;rintro e w2 ⟨rfl,hb2'⟩))
    go_wp2
    go_ret
    exact ⟨ret_int HR2.out.symm,hEw.out.trans (by exact eX)⟩
  ·have hkk:k=l.length:=by omega
   have HR2:=Hm (HF3.out.trans (firstE_zero (fun i hi=>hrel.out i (by omega))))
   subst hkk
   go_wp2
   go_ret
   exact ⟨ret_int HR2.out.symm,hEw.out⟩
end Go.Proofs.YtodbhliidbclcaaGreat
