/-
Names: the program's, the reference's.
-/
import Derived.RangeFuncNested
import Derived.RangeFuncBound
import Derived.RangeFuncCalls
import Derived.RangeFuncLeaves
import Derived.RangeFuncBox
import Derived.Shelf.Abstract
import Derived.Shelf.RegionOpen
import Derived.OwnWalkIn
import Derived.TacticsInMore
import Derived.LoopNIn
import Derived.LoopIn
import Derived.Test.YtgmphpccpfaapaaGreatDoorP2
import Derived.Test.YtgmphpccpfaapaaGreatDoorP1
import Derived.Test.YtgmphpccpfaapaaGreatDoorP3
set_option maxRecDepth 100000
set_option maxHeartbeats 16000000
namespace Go.Proofs.YtgmphpccpfaapaaGreatDoor
open Go.RowKit
theorem named_any (s:ByteArray) (w:World) (hs:s.size≤9223372036854775807):
 Calls Tryz.prog 87 #[.string s] w fun e w' =>e= .returned (.bool (namedB s))∧w=w' :=by
 go_enter Tryz.func87,Tryz.ntmps87
 go_wp2
 go_loop [8] (fun i=>∃k:Nat,k≤s.size∧i= .int .i64 k∧Hid (∀j,j<k→nameAt s j=true)) (fun i=>s.size - (intOf i).toNat)
 case atStart=>exact ⟨0,Nat.zero_le _,rfl,fun j h=>by omega⟩
 case round=>
  obtain ⟨k,hk,rfl,hrel⟩:=hrel
  by_cases hlt:k<s.size
  ·rcases name_cases hlt with ⟨hn,hc⟩|⟨hn,hc⟩
   ·have HN:=Hm hn
    clear hn
    have HC:=Hm hc
    clear hc
    rcases HC.out with ⟨h1,h2⟩|⟨h0,h1,h2⟩|⟨h0,h1⟩
    ·clear HC
     go_wp2
     go_round
     case rel=>exact ⟨k+1,by omega,by go_num,fun j hj=>by
      by_cases e:j=k
      ·subst e;exact HN.out
      ·exact hrel.out j (by omega)⟩
     case measure=>simp [intOf];omega
    ·clear HC
     (try first|(have a1:97≤(s[k].toNat:Int):=by omega)|(have a1:(s[k].toNat:Int)<97:=by omega));(try first|(have a2:(s[k].toNat:Int)≤122:=by omega)|(have a2:122<(s[k].toNat:Int):=by omega));(try first|(have a3:48≤(s[k].toNat:Int):=by omega)|(have a3:(s[k].toNat:Int)<48:=by omega));(try first|(have a4:(s[k].toNat:Int)≤57:=by omega)|(have a4:57<(s[k].toNat:Int):=by omega));(try first|(have a1d:decide (97≤(s[k].toNat:Int))=true:=decide_eq_true (by omega))|(have a1d:decide (97≤(s[k].toNat:Int))=false:=decide_eq_false (by omega)));(try first|(have a2d:decide ((s[k].toNat:Int)≤122)=true:=decide_eq_true (by omega))|(have a2d:decide ((s[k].toNat:Int)≤122)=false:=decide_eq_false (by omega)));(try first|(have a3d:decide (48≤(s[k].toNat:Int))=true:=decide_eq_true (by omega))|(have a3d:decide (48≤(s[k].toNat:Int))=false:=decide_eq_false (by omega)));(try first|(have a4d:decide ((s[k].toNat:Int)≤57)=true:=decide_eq_true (by omega))|(have a4d:decide ((s[k].toNat:Int)≤57)=false:=decide_eq_false (by omega)))
     have e0:((k:Int)==0)=false:=by simp;omega
     have h3:(s[k].toNat:Int)<97:=by omega
     go_wp2
     go_round
     case rel=>exact ⟨k+1,by omega,by go_num,fun j hj=>by
      by_cases e:j=k
      ·subst e;exact HN.out
      ·exact hrel.out j (by omega)⟩
     case measure=>simp [intOf];omega
    ·clear HC
     have e0:((k:Int)==0)=false:=by simp;omega
     have e1:((s[k].toNat:Int) !=95)=false:=by simp;omega
     have h3:(s[k].toNat:Int)<97:=by omega
     have h4:57<(s[k].toNat:Int):=by omega
     clear h1
     go_wp2
     go_round
     case rel=>exact ⟨k+1,by omega,by go_num,fun j hj=>by
      by_cases e:j=k
      ·subst e;exact HN.out
      ·exact hrel.out j (by omega)⟩
     case measure=>simp [intOf];omega
   ·have HF:=Hm (named_no hlt hn)
    clear hn
    rcases hc with ⟨rfl,h1⟩|⟨rfl,h1⟩|⟨h0,h1⟩|⟨h0,h1,h2⟩|⟨h0,h1,h2⟩|⟨h0,h1⟩
    ·(try first|(have a1:97≤(s[0].toNat:Int):=by omega)|(have a1:(s[0].toNat:Int)<97:=by omega));(try first|(have a2:(s[0].toNat:Int)≤122:=by omega)|(have a2:122<(s[0].toNat:Int):=by omega));(try first|(have a3:48≤(s[0].toNat:Int):=by omega)|(have a3:(s[0].toNat:Int)<48:=by omega));(try first|(have a4:(s[0].toNat:Int)≤57:=by omega)|(have a4:57<(s[0].toNat:Int):=by omega));(try first|(have a1d:decide (97≤(s[0].toNat:Int))=true:=decide_eq_true (by omega))|(have a1d:decide (97≤(s[0].toNat:Int))=false:=decide_eq_false (by omega)));(try first|(have a2d:decide ((s[0].toNat:Int)≤122)=true:=decide_eq_true (by omega))|(have a2d:decide ((s[0].toNat:Int)≤122)=false:=decide_eq_false (by omega)));(try first|(have a3d:decide (48≤(s[0].toNat:Int))=true:=decide_eq_true (by omega))|(have a3d:decide (48≤(s[0].toNat:Int))=false:=decide_eq_false (by omega)));(try first|(have a4d:decide ((s[0].toNat:Int)≤57)=true:=decide_eq_true (by omega))|(have a4d:decide ((s[0].toNat:Int)≤57)=false:=decide_eq_false (by omega)))
     go_wp2
     all_goals
      go_ret
      exact ⟨ret_bool HF.out.symm,rfl⟩
    ·(try first|(have a1:97≤(s[0].toNat:Int):=by omega)|(have a1:(s[0].toNat:Int)<97:=by omega));(try first|(have a2:(s[0].toNat:Int)≤122:=by omega)|(have a2:122<(s[0].toNat:Int):=by omega));(try first|(have a3:48≤(s[0].toNat:Int):=by omega)|(have a3:(s[0].toNat:Int)<48:=by omega));(try first|(have a4:(s[0].toNat:Int)≤57:=by omega)|(have a4:57<(s[0].toNat:Int):=by omega));(try first|(have a1d:decide (97≤(s[0].toNat:Int))=true:=decide_eq_true (by omega))|(have a1d:decide (97≤(s[0].toNat:Int))=false:=decide_eq_false (by omega)));(try first|(have a2d:decide ((s[0].toNat:Int)≤122)=true:=decide_eq_true (by omega))|(have a2d:decide ((s[0].toNat:Int)≤122)=false:=decide_eq_false (by omega)));(try first|(have a3d:decide (48≤(s[0].toNat:Int))=true:=decide_eq_true (by omega))|(have a3d:decide (48≤(s[0].toNat:Int))=false:=decide_eq_false (by omega)));(try first|(have a4d:decide ((s[0].toNat:Int)≤57)=true:=decide_eq_true (by omega))|(have a4d:decide ((s[0].toNat:Int)≤57)=false:=decide_eq_false (by omega)))
     go_wp2
     all_goals
      go_ret
      exact ⟨ret_bool HF.out.symm,rfl⟩
    all_goals
     have e0:((k:Int)==0)=false:=by simp;omega
     have e1:((s[k].toNat:Int) !=95)=true:=by simp;omega
     (try first|(have a1:97≤(s[k].toNat:Int):=by omega)|(have a1:(s[k].toNat:Int)<97:=by omega));(try first|(have a2:(s[k].toNat:Int)≤122:=by omega)|(have a2:122<(s[k].toNat:Int):=by omega));(try first|(have a3:48≤(s[k].toNat:Int):=by omega)|(have a3:(s[k].toNat:Int)<48:=by omega));(try first|(have a4:(s[k].toNat:Int)≤57:=by omega)|(have a4:57<(s[k].toNat:Int):=by omega));(try first|(have a1d:decide (97≤(s[k].toNat:Int))=true:=decide_eq_true (by omega))|(have a1d:decide (97≤(s[k].toNat:Int))=false:=decide_eq_false (by omega)));(try first|(have a2d:decide ((s[k].toNat:Int)≤122)=true:=decide_eq_true (by omega))|(have a2d:decide ((s[k].toNat:Int)≤122)=false:=decide_eq_false (by omega)));(try first|(have a3d:decide (48≤(s[k].toNat:Int))=true:=decide_eq_true (by omega))|(have a3d:decide (48≤(s[k].toNat:Int))=false:=decide_eq_false (by omega)));(try first|(have a4d:decide ((s[k].toNat:Int)≤57)=true:=decide_eq_true (by omega))|(have a4d:decide ((s[k].toNat:Int)≤57)=false:=decide_eq_false (by omega)))
     go_wp2
     all_goals
      go_ret
      exact ⟨ret_bool HF.out.symm,rfl⟩
  ·have hkk:k=s.size:=by omega
   have HF:=Hm (named_yes (s:=s) fun j hj=>hrel.out j (by omega))
   subst hkk
   by_cases h1:1≤s.size<;>by_cases h2:s.size≤31
   all_goals
    go_wp2
    all_goals go_ret
    all_goals exact ⟨ret_bool (by rw [HF.out]<;>first|(apply decide_eq_decide.2;omega)|(symm;rw [decide_eq_true_iff];omega)|(symm;rw [decide_eq_false_iff_not];omega)),rfl⟩
theorem rnamed_any (s:ByteArray) (w:World) (hs:s.size≤9223372036854775807):
 Calls Tryz.prog 85 #[.string s] w fun e w' =>e= .returned (.bool (namedB s))∧w=w' :=by
 by_cases hl:1≤s.size∧s.size≤31
 case neg=>
  have HF:=Hm (named_len hl)
  by_cases h1:s.size<1
  ·clear hl
   go_enter Tryz.func85,Tryz.ntmps85
   go_wp2
   go_ret
   exact ⟨ret_bool HF.out.symm,rfl⟩
  ·have h2:31<s.size:=by omega
   clear hl
   go_enter Tryz.func85,Tryz.ntmps85
   go_wp2
   go_ret
   exact ⟨ret_bool HF.out.symm,rfl⟩
 obtain ⟨hl1,hl2⟩:=hl
 go_enter Tryz.func85,Tryz.ntmps85
 go_wp2
 go_loop [3] (fun i=>∃k:Nat,k≤s.size∧i= .int .i64 k∧Hid (∀j,j<k→nameAt s j=true)) (fun i=>s.size - (intOf i).toNat)
 case atStart=>exact ⟨0,Nat.zero_le _,rfl,fun j h=>by omega⟩
 case round=>
  obtain ⟨k,hk,rfl,hrel⟩:=hrel
  by_cases hlt:k<s.size
  ·rcases name_cases hlt with ⟨hn,hc⟩|⟨hn,hc⟩
   ·have HN:=Hm hn
    clear hn
    have HC:=Hm hc
    clear hc
    rcases HC.out with ⟨h1,h2⟩|⟨h0,h1,h2⟩|⟨h0,h1⟩
    ·clear HC
     go_wp2
     go_round
     case rel=>exact ⟨k+1,by omega,by go_num,fun j hj=>by
      by_cases e:j=k
      ·subst e;exact HN.out
      ·exact hrel.out j (by omega)⟩
     case measure=>simp [intOf];omega
    ·clear HC
     have h3:(s[k].toNat:Int)<97:=by omega
     go_wp2
     go_round
     case rel=>exact ⟨k+1,by omega,by go_num,fun j hj=>by
      by_cases e:j=k
      ·subst e;exact HN.out
      ·exact hrel.out j (by omega)⟩
     case measure=>simp [intOf];omega
    ·clear HC
     have e1:((s[k].toNat:Int)==95)=true:=by simp;omega
     have h3:(s[k].toNat:Int)<97:=by omega
     have h4:57<(s[k].toNat:Int):=by omega
     clear h1
     go_wp2
     go_round
     case rel=>exact ⟨k+1,by omega,by go_num,fun j hj=>by
      by_cases e:j=k
      ·subst e;exact HN.out
      ·exact hrel.out j (by omega)⟩
     case measure=>simp [intOf];omega
   ·have HF:=Hm (named_no hlt hn)
    clear hn
    rcases hc with ⟨rfl,h1⟩|⟨rfl,h1⟩|⟨h0,h1⟩|⟨h0,h1,h2⟩|⟨h0,h1,h2⟩|⟨h0,h1⟩
    ·(try first|(have a1:97≤(s[0].toNat:Int):=by omega)|(have a1:(s[0].toNat:Int)<97:=by omega));(try first|(have a2:(s[0].toNat:Int)≤122:=by omega)|(have a2:122<(s[0].toNat:Int):=by omega));(try first|(have a3:48≤(s[0].toNat:Int):=by omega)|(have a3:(s[0].toNat:Int)<48:=by omega));(try first|(have a4:(s[0].toNat:Int)≤57:=by omega)|(have a4:57<(s[0].toNat:Int):=by omega));(try first|(have a1d:decide (97≤(s[0].toNat:Int))=true:=decide_eq_true (by omega))|(have a1d:decide (97≤(s[0].toNat:Int))=false:=decide_eq_false (by omega)));(try first|(have a2d:decide ((s[0].toNat:Int)≤122)=true:=decide_eq_true (by omega))|(have a2d:decide ((s[0].toNat:Int)≤122)=false:=decide_eq_false (by omega)));(try first|(have a3d:decide (48≤(s[0].toNat:Int))=true:=decide_eq_true (by omega))|(have a3d:decide (48≤(s[0].toNat:Int))=false:=decide_eq_false (by omega)));(try first|(have a4d:decide ((s[0].toNat:Int)≤57)=true:=decide_eq_true (by omega))|(have a4d:decide ((s[0].toNat:Int)≤57)=false:=decide_eq_false (by omega)))
     go_wp2
     all_goals
      go_ret
      exact ⟨ret_bool HF.out.symm,rfl⟩
    ·(try first|(have a1:97≤(s[0].toNat:Int):=by omega)|(have a1:(s[0].toNat:Int)<97:=by omega));(try first|(have a2:(s[0].toNat:Int)≤122:=by omega)|(have a2:122<(s[0].toNat:Int):=by omega));(try first|(have a3:48≤(s[0].toNat:Int):=by omega)|(have a3:(s[0].toNat:Int)<48:=by omega));(try first|(have a4:(s[0].toNat:Int)≤57:=by omega)|(have a4:57<(s[0].toNat:Int):=by omega));(try first|(have a1d:decide (97≤(s[0].toNat:Int))=true:=decide_eq_true (by omega))|(have a1d:decide (97≤(s[0].toNat:Int))=false:=decide_eq_false (by omega)));(try first|(have a2d:decide ((s[0].toNat:Int)≤122)=true:=decide_eq_true (by omega))|(have a2d:decide ((s[0].toNat:Int)≤122)=false:=decide_eq_false (by omega)));(try first|(have a3d:decide (48≤(s[0].toNat:Int))=true:=decide_eq_true (by omega))|(have a3d:decide (48≤(s[0].toNat:Int))=false:=decide_eq_false (by omega)));(try first|(have a4d:decide ((s[0].toNat:Int)≤57)=true:=decide_eq_true (by omega))|(have a4d:decide ((s[0].toNat:Int)≤57)=false:=decide_eq_false (by omega)))
     go_wp2
     all_goals
      go_ret
      exact ⟨ret_bool HF.out.symm,rfl⟩
    all_goals
     have e1:((s[k].toNat:Int)==95)=false:=by simp;omega
     (try first|(have a1:97≤(s[k].toNat:Int):=by omega)|(have a1:(s[k].toNat:Int)<97:=by omega));(try first|(have a2:(s[k].toNat:Int)≤122:=by omega)|(have a2:122<(s[k].toNat:Int):=by omega));(try first|(have a3:48≤(s[k].toNat:Int):=by omega)|(have a3:(s[k].toNat:Int)<48:=by omega));(try first|(have a4:(s[k].toNat:Int)≤57:=by omega)|(have a4:57<(s[k].toNat:Int):=by omega));(try first|(have a1d:decide (97≤(s[k].toNat:Int))=true:=decide_eq_true (by omega))|(have a1d:decide (97≤(s[k].toNat:Int))=false:=decide_eq_false (by omega)));(try first|(have a2d:decide ((s[k].toNat:Int)≤122)=true:=decide_eq_true (by omega))|(have a2d:decide ((s[k].toNat:Int)≤122)=false:=decide_eq_false (by omega)));(try first|(have a3d:decide (48≤(s[k].toNat:Int))=true:=decide_eq_true (by omega))|(have a3d:decide (48≤(s[k].toNat:Int))=false:=decide_eq_false (by omega)));(try first|(have a4d:decide ((s[k].toNat:Int)≤57)=true:=decide_eq_true (by omega))|(have a4d:decide ((s[k].toNat:Int)≤57)=false:=decide_eq_false (by omega)))
     go_wp2
     all_goals
      go_ret
      exact ⟨ret_bool HF.out.symm,rfl⟩
  ·have hkk:k=s.size:=by omega
   have HF:=Hm (named_yes (s:=s) fun j hj=>hrel.out j (by omega))
   subst hkk
   go_wp2
   go_ret
   exact ⟨ret_bool (by rw [HF.out];symm;rw [decide_eq_true_iff];omega),rfl⟩
def Col.agg (c:Col):Value:= .agg #[.string c.nm, .int .u8 c.ty, .bool c.key]
def sameNm (c:Col) (o:Col):Bool:=decide (o.nm=c.nm)
theorem colf_any (o c:Col) (B:Nat) (w:World) (hc:w.cell? ⟨B,0,none⟩=some (.string c.nm)) (hB:B<w.heap.size):
 Calls Tryz.prog 119 #[.agg #[.string o.nm, .int .u8 o.ty, .bool o.key], .pointer (some ⟨B,0,none⟩)] w fun e w' =>e= .returned (.bool (sameNm c o))∧Ext w w' :=by
 go_enter Tryz.func119,Tryz.ntmps119
 go_wp2
 go_ret
 exact ⟨ret_bool (str_beq _ _),by exact eX⟩
def IdxPost {α:Type} (l:List α) (p:α→Bool) (w:World) (e:Ending) (w' :World):Prop:=∃i:Int,e= .returned (.int .i64 i)∧decide (0≤i)=l.any p∧Ext w w'
theorem any_at {α:Type} {l:List α} {p:α→Bool} {k:Nat} (hk:k<l.length) (h:p l[k]=true):l.any p=true:=List.any_eq_true.2 ⟨_,List.getElem_mem hk,h⟩
theorem any_none {α:Type} {l:List α} {p:α→Bool} (h:∀i (hi:i<l.length),p l[i]=false):l.any p=false:=by
 rw [List.any_eq_false]
 intro x hx
 obtain ⟨i,hi,rfl⟩:=List.getElem_of_mem hx
 simp [h i hi]
theorem colidx_any (l:List Col) (a:Option Addr) (n cap:Nat) (c:Col) (B:Nat) (w:World) (hn:l.length=n) (hl:Sl w (.slice a n cap) 3 (l.map Col.cells)) (hc:w.cell? ⟨B,0,none⟩=some (.string c.nm)) (hB:B<w.heap.size) (hlen:l.length≤1000):
 Calls Tryz.prog 143 #[.slice a n cap, .func (.func 119) #[] #[.pointer (some ⟨B,0,none⟩)]] w (IdxPost l (sameNm c) w):=by
 subst hn
 have HL:=Hm hl
 have HC:=Hm hc
 clear hl hc
 go_enter Tryz.func143,Tryz.ntmps143
 go_wp2
 go_loopw [8] (fun i wr=>∃k:Nat,k≤l.length∧i= .int .i64 k∧Hid (∀j (hj:j<l.length),j<k→sameNm c l[j]=false)∧Hid (Ext w wr)) (fun i _=>l.length - (intOf i).toNat)
 case atStart=>exact ⟨0,Nat.zero_le _,rfl,fun j _ h=>by omega,Ext.refl _⟩
 case round=>
  obtain ⟨k,hk,rfl,hrel,hE⟩:=hrel
  by_cases hlt:k<l.length
  ·obtain ⟨b,o,rfl,hb,hx⟩:=HL.out.at_ (i:=k) (by simpa using hlt)
   obtain ⟨f0,f1,f2⟩:=Col.at_ hlt hx hb hE.out
   have hbw:b<wr.heap.size:=Nat.lt_of_lt_of_le hb hE.out.size
   have HF:=Hm (fun W (h:Ext wr W)=>colf_any l[k] c B W ((hE.out.trans h).cells.1 B _ hB|>.trans HC.out) (Nat.lt_of_lt_of_le hB (hE.out.trans h).size))
   cases hq:sameNm c l[k] with
   |true=>
    rw [hq] at HF
    have HQ:=Hm (any_at hlt hq)
    clear hq hx
    go_wp2_with (go_at_call 119;refine (HF.out _ (by exact eX)).mono ?_;rintro e w1 ⟨rfl,hb1⟩)
    go_ret
    exact ⟨_,rfl,by rw [HQ.out];simp,hE.out.trans (by exact eX)⟩
   |false=>
    rw [hq] at HF
    have HQ:=Hm hq
    clear hq hx
    go_wp2_with (go_at_call 119;refine (HF.out _ (by exact eX)).mono ?_;rintro e w1 ⟨rfl,hb1⟩)
    go_roundw
    case rel=>exact ⟨k+1,by omega,by go_num,fun j hj hjk=>by
     by_cases e:j=k
     ·subst e;exact HQ.out
     ·exact hrel.out j hj (by omega),Hm (hE.out.trans (by exact eX))⟩
    case measure=>simp [intOf];omega
  ·have hkk:k=l.length:=by omega
   have HQ:=Hm (any_none (p:=sameNm c) fun j hj=>hrel.out j hj (by omega))
   subst hkk
   go_wp2
   go_ret
   exact ⟨_,rfl,by rw [HQ.out];simp,hE.out⟩
theorem colhas_any (l:List Col) (a:Option Addr) (n cap:Nat) (c:Col) (B:Nat) (w:World) (hn:l.length=n) (hl:Sl w (.slice a n cap) 3 (l.map Col.cells)) (hc:w.cell? ⟨B,0,none⟩=some (.string c.nm)) (hB:B<w.heap.size) (hlen:l.length≤1000):
 Calls Tryz.prog 118 #[.slice a n cap, .func (.func 119) #[] #[.pointer (some ⟨B,0,none⟩)]] w fun e w' =>e= .returned (.bool (l.any (sameNm c)))∧Ext w w' :=by
 have HI:=Hm (colidx_any l a n cap c B w hn hl hc hB hlen)
 clear hl hc
 go_enter Tryz.func118,Tryz.ntmps118
 go_wp2_with (go_at_call 143;refine HI.out.mono ?_;rintro e w1 ⟨i,rfl,hi,hb1⟩;have HI2:=Hm hi;clear hi)
 go_ret
 exact ⟨ret_bool HI2.out,hb1⟩
theorem column_any (c:Col) (l:List Col) (a:Option Addr) (n cap:Nat) (w:World) (hn:l.length=n) (hl:Sl w (.slice a n cap) 3 (l.map Col.cells)) (hlen:l.length≤1000) (hs:c.nm.size≤9223372036854775807):
 Calls Tryz.prog 88 #[.agg #[.string c.nm, .int .u8 c.ty, .bool c.key], .slice a n cap] w fun e w' =>e= .returned (.int .i64 (colE c l))∧Ext w w' :=by
 have HN:=Hm (fun w=>named_any c.nm w hs)
 have HH:=Hm (fun W (h:Ext w W) (B:Nat) hc hB=>colhas_any l a n cap c B W hn (hl.ext h) hc hB hlen)
 have HE:=Hm (show colE c l=if namedB c.nm=false then 3 else if l.any (sameNm c)=true then 9 else if c.ty<1∨6<c.ty then 11 else 0 from rfl)
 clear hl
 cases h1:namedB c.nm with
 |false=>
  rw [h1] at HN HE
  clear h1
  go_enter Tryz.func88,Tryz.ntmps88
  go_wp2_with (go_at_call 87;refine (HN.out _).mono ?_;rintro e w1 ⟨rfl,rfl⟩)
  go_ret
  exact ⟨ret_int (by rw [HE.out];simp),by exact eX⟩
 |true=>
  rw [h1] at HN HE
  clear h1
  cases h2:l.any (sameNm c) with
  |true=>
   rw [h2] at HH HE
   clear h2
   go_enter Tryz.func88,Tryz.ntmps88
   go_wp2_with (first
    |(go_at_call 87;refine (HN.out _).mono ?_;rintro e w1 ⟨rfl,rfl⟩)
    |(go_at_call 118;refine (HH.out _ (by exact eX) _ (by simp) (by simp)).mono ?_;rintro e w2 ⟨rfl,hb2⟩;have hE2:Ext w w2:=(by exact eX)))
   go_ret
   exact ⟨ret_int (by rw [HE.out];simp),hE2⟩
  |false=>
   rw [h2] at HH HE
   clear h2
   by_cases h3:c.ty<1
   ·have HR:=Hm (HE.out.trans (by rw [if_neg (by simp),if_neg (by simp),if_pos (.inl h3)]))
    clear HE
    go_enter Tryz.func88,Tryz.ntmps88
    go_wp2_with (first
     |(go_at_call 87;refine (HN.out _).mono ?_;rintro e w1 ⟨rfl,rfl⟩)
     |(go_at_call 118;refine (HH.out _ (by exact eX) _ (by simp) (by simp)).mono ?_;rintro e w2 ⟨rfl,hb2⟩;have hE2:Ext w w2:=(by exact eX);have hk:=((Blk.new w #[.string c.nm, .int .u8 c.ty, .bool c.key] 153).ext hb2).cell))
    go_ret
    exact ⟨ret_int HR.out.symm,hE2⟩
   ·by_cases h4:6<c.ty
    ·have HR:=Hm (HE.out.trans (by rw [if_neg (by simp),if_neg (by simp),if_pos (.inr h4)]))
     clear HE
     go_enter Tryz.func88,Tryz.ntmps88
     go_wp2_with (first
      |(go_at_call 87;refine (HN.out _).mono ?_;rintro e w1 ⟨rfl,rfl⟩)
      |(go_at_call 118;refine (HH.out _ (by exact eX) _ (by simp) (by simp)).mono ?_;rintro e w2 ⟨rfl,hb2⟩;have hE2:Ext w w2:=(by exact eX);have hk:=((Blk.new w #[.string c.nm, .int .u8 c.ty, .bool c.key] 153).ext hb2).cell))
     go_ret
     exact ⟨ret_int HR.out.symm,hE2⟩
    ·have HR:=Hm (HE.out.trans (by rw [if_neg (by simp),if_neg (by simp),if_neg (by omega)]))
     clear HE
     go_enter Tryz.func88,Tryz.ntmps88
     go_wp2_with (first
      |(go_at_call 87;refine (HN.out _).mono ?_;rintro e w1 ⟨rfl,rfl⟩)
      |(go_at_call 118;refine (HH.out _ (by exact eX) _ (by simp) (by simp)).mono ?_;rintro e w2 ⟨rfl,hb2⟩;have hE2:Ext w w2:=(by exact eX);have hk:=((Blk.new w #[.string c.nm, .int .u8 c.ty, .bool c.key] 153).ext hb2).cell))
     go_ret
     exact ⟨ret_int HR.out.symm,hE2⟩
open Go.RowKit Go.Shelf
attribute [local go_sem] Oper.semAt_some
abbrev KX (cols:List Col):= { x:Nat×Col // x.1<cols.length∧cols[x.1]? =some x.2∧x.2.key=true }
def keysUp (cols:List Col):Nat→List (KX cols)
 |0=> []
 |k+1=>if h:∃h:k<cols.length,cols[k].key=true then keysUp cols k++ [⟨(k,cols[k]'h.1),h.1,List.getElem?_eq_getElem h.1,h.2⟩] else keysUp cols k
theorem keysUp_yes {cols:List Col} {k:Nat} (hk:k<cols.length) (h:cols[k].key=true):keysUp cols (k+1)=keysUp cols k++ [⟨(k,cols[k]),hk,List.getElem?_eq_getElem hk,h⟩]:=by
 unfold keysUp
 rw [dif_pos ⟨hk,h⟩]
 cases k<;>rfl
theorem keysUp_no {cols:List Col} {k:Nat} (hk:k<cols.length) (h:cols[k].key=false):keysUp cols (k+1)=keysUp cols k:=by
 conv=>lhs;unfold keysUp
 rw [dif_neg (by rintro ⟨_,h2⟩;rw [h] at h2;cases h2)]
theorem keysUp_len {cols:List Col} :∀k,(keysUp cols k).length≤k
 |0=>Nat.le_refl _
 |k+1=>by
  have:=keysUp_len (cols:=cols) k
  unfold keysUp
  split
  ·rw [List.length_append,List.length_singleton];omega
  ·omega
theorem keysUp_mem {cols:List Col} :∀(k:Nat) (x:KX cols),x∈keysUp cols k↔x.1.1<k
 |0,x=>by simp [keysUp]
 |k+1,x=>by
  have ih:=keysUp_mem (cols:=cols) k x
  obtain ⟨⟨i,c⟩,hi,hc,hk⟩:=x
  simp only at*
  unfold keysUp
  split
  ·rename_i h
   rw [List.mem_append,ih,List.mem_singleton,Subtype.mk.injEq,Prod.mk.injEq]
   constructor
   ·rintro (h1|⟨rfl,_⟩)<;>omega
   ·intro h1
    by_cases e:i=k
    ·subst e;right;refine ⟨rfl, ?_⟩;rw [List.getElem?_eq_getElem hi] at hc;exact (Option.some.inj hc).symm
    ·left;omega
  ·rename_i h
   rw [ih]
   constructor
   ·intro h1;omega
   ·intro h1
    by_cases e:i=k
    ·subst e
     rw [List.getElem?_eq_getElem hi] at hc
     exact absurd ⟨hi,by rw [Option.some.inj hc];exact hk⟩ h
    ·omega
theorem keysUp_none {cols:List Col} :keysUp cols cols.length= []↔cols.any Col.key=false:=by
 constructor
 ·intro h
  rw [List.any_eq_false]
  intro c hc
  obtain ⟨i,hi,rfl⟩:=List.getElem_of_mem hc
  intro hk
  have:(⟨(i,cols[i]),hi,List.getElem?_eq_getElem hi,hk⟩:KX cols)∈keysUp cols cols.length:=(keysUp_mem _ _).2 hi
  rw [h] at this;cases this
 ·intro h
  rw [List.any_eq_false] at h
  rw [List.eq_nil_iff_forall_not_mem]
  rintro ⟨⟨i,c⟩,hi,hc,hk⟩ _
  exact h c (List.mem_of_getElem? hc) hk
def encK {cols:List Col} (x:KX cols):Array Value:= #[.int .i64 (x.1.1:Int), .agg #[.string x.1.2.nm, .int .u8 x.1.2.ty, .bool x.1.2.key]]
theorem keys1_in (F:Fence) (n:Nat) (hF:F.fn 144) (hro:F.round=none) (hn:1≤n) (l Bs:Nat) (w0:World) (a:Option Addr) (cap:Nat) (cols:List Col) (hlen:cols.length≤1000) (hl:Hid (Sl w0 (.slice a cols.length cap) 3 (cols.map Col.cells)))
 (J Jx:List (KX cols)→World→Prop) (W0:World) (hJ:Hid (AbidesFrom W0.heap.size J))
 (hY:Hid (∀pre x W,J pre W→pre.length<cols.length→YieldAt F (n - 1) Tryz.prog l (encK x) W fun e W' =>(e= .returned (.bool true)∧J (pre++ [x]) W'∧Below w0.heap.size W W')∨(e= .returned (.bool false)∧Jx (pre++ [x]) W')))
 (hE:Hid (Ext w0 W0)) (hBs:W0.cell? ⟨Bs,4,none⟩=some (.slice a cols.length cap)) (h0:Hid (J [] W0)):
 CallsIn F n Tryz.prog 144 #[.func (.yield l) #[] #[], .pointer (some ⟨Bs,0,none⟩)] W0 fun e W' =>(∃v,e= .returned v)∧
  ((∃ys,ys=keysUp cols cols.length∧J ys W')∨(∃pre,(∃k,k≤cols.length∧pre=keysUp cols k)∧Jx pre W')):=by
 refine callsIn_of_wp Tryz.func144 rfl hF ?_ hro
 simp only [Tryz.ntmps144,List.size_toArray,List.length_cons,List.length_nil,Nat.reduceAdd,Nat.reduceSub,Array.replicate_succ,Array.replicate_zero,List.push_toArray,List.append_toArray,List.nil_append,List.cons_append]
 gi_wp2
 gi_loopw [8] (fun i wr=>∃k:Nat,k≤cols.length∧i= .int .i64 k∧Hid (J (keysUp cols k) wr)∧Hid (Ext w0 wr)) (fun i _=>cols.length - (intOf i).toNat)
 case atStart=>exact ⟨0,Nat.zero_le _,rfl,h0,hE⟩
 case round=>
  obtain ⟨k,hk,rfl,hJs,hEw⟩:=hrel
  by_cases hlt:k<cols.length
  ·obtain ⟨b,o,rfl,hb,hx⟩:=hl.out.at_ (i:=k) (by simpa using hlt)
   obtain ⟨f0,f1,f2⟩:=Col.at_ hlt hx hb hEw.out
   have hJa:Hid (∀o:Obj,J (keysUp cols k) (wr.alloc o)):=Hm (fun o=>hJ.out _ _ _ none hJs.out (World.grownBy_alloc _ _ none) (by simp))
   clear hx
   cases hq:cols[k].key with
   |true=>
    obtain ⟨x,hu,hx2⟩:∃x:KX cols,keysUp cols (k+1)=keysUp cols k++ [x]∧x.1=(k,cols[k]):=⟨_,keysUp_yes hlt hq,rfl⟩
    have HU:=Hm hu
    obtain ⟨fn,tmps,assign,body,hy,hR⟩:=hY.out (keysUp cols k) x (wr.alloc (.cells #[.string cols[k].nm, .int .u8 cols[k].ty, .bool true] 153)) (hJa.out _) (by have:=keysUp_len (cols:=cols) k;omega)
    simp only [encK,hx2,hq] at hy
    rw [hq] at f2
    clear hq hu hx2
    gi_wp2
    refine hR.mono ?_
    rintro e W3 (⟨rfl,hJ3,hk3⟩|⟨rfl,hJx3⟩)
    ·gi_wp2
     go_roundw
     case rel=>exact ⟨k+1,by omega,by go_num,Hm (by rw [HU.out];exact hJ3),Hm (Below.trans (hEw.out.alloc _) hk3)⟩
     case measure=>simp [intOf];omega
    ·gi_wp2
     refine bodyPost_ret (results_none rfl _ _ _) rfl ?_
     exact ⟨⟨_,rfl⟩, .inr ⟨_,⟨k+1,by omega,HU.out.symm⟩,hJx3⟩⟩
   |false=>
    have HU:=Hm (keysUp_no hlt hq)
    rw [hq] at f2
    clear hq
    gi_wp2
    refine ⟨fun _ h=>(by cases h), ?_⟩
    gi_wp2
    go_roundw
    case rel=>exact ⟨k+1,by omega,by go_num,Hm (by rw [HU.out];exact hJa.out _),Hm (hEw.out.alloc _)⟩
    case measure=>simp [intOf];omega
  ·obtain rfl:k=cols.length:=by omega
   gi_wp2
   go_end0
   exact ⟨⟨_,rfl⟩, .inl ⟨_,rfl,hJs.out⟩⟩
theorem keys_stops (F:Fence) (n:Nat) (hF:F.fn 144) (hro:F.round=none) (hn:1≤n) (Bs:Nat) (w0:World) (a:Option Addr) (cap:Nat) (cols:List Col) (hlen:cols.length≤1000) (hl:Sl w0 (.slice a cols.length cap) 3 (cols.map Col.cells))
 (w:World) (hE:Ext w0 w) (hBs:w.cell? ⟨Bs,4,none⟩=some (.slice a cols.length cap)) (hB:Bs<w.heap.size):
 SeqStopsK F n Tryz.prog 144 #[.pointer (some ⟨Bs,0,none⟩)] (encK (cols:=cols)) (Below w0.heap.size) (fun ys=>ys=keysUp cols cols.length) (fun pre=>∃k,k≤cols.length∧pre=keysUp cols k) cols.length w:=fun l J Jx W hW hJ _ hY h0=>
 keys1_in F n hF hro hn l Bs w0 a cap cols hlen hl J Jx W hJ hY (Below.trans hE (hW.mono hE.size)) ((hW.cell (p:=⟨Bs,4,none⟩) hB).trans hBs) h0
theorem keys_in (F:Fence) (n:Nat) (hF:F.fn 120) (hro:F.round=none) (oid ver:Int) (nm:ByteArray) (id:Int) (v:Value) (w:World):
 CallsIn F n Tryz.prog 120 #[.agg #[.int .u32 oid, .int .u32 ver, .string nm, .int .u8 id,v]] w fun e w' =>e= .returned (.func (.func 144) #[] #[.pointer (some ⟨w.heap.size,0,none⟩)])∧w' =w.alloc (.cells #[.int .u32 oid, .int .u32 ver, .string nm, .int .u8 id,v] 72):=by
 refine callsIn_of_wp Tryz.func120 rfl hF ?_ hro
 simp only [Tryz.ntmps120,List.size_toArray,List.length_cons,List.length_nil,Nat.reduceAdd,Nat.reduceSub,Array.replicate_succ,Array.replicate_zero,List.push_toArray,List.append_toArray,List.nil_append,List.cons_append]
 gi_wp2
 go_ret
 exact ⟨rfl,rfl⟩
end Go.Proofs.YtgmphpccpfaapaaGreatDoor
namespace Go.Proofs.YtgmphpccpfaapaaGreatDoor
open Go.RowKit Go.Shelf
attribute [local go_sem] Oper.semAt_some
theorem fold_two (t:Array Value) (p q:Nat) (u v:Value):Array.foldl (fun t x=>t.setIfInBounds x.1 x.2) t (#[p,q].zip #[u,v])=(t.setIfInBounds p u).setIfInBounds q v:=by
 simp [List.zip_toArray]
theorem keysUp_any {cols:List Col} {k:Nat} (h:keysUp cols k≠ []):cols.any Col.key=true:=by
 rw [List.any_eq_true]
 obtain ⟨x,hx⟩:=List.exists_mem_of_ne_nil _ h
 obtain ⟨⟨i,c⟩,hi,hc,hk⟩:=x
 exact ⟨c,List.mem_of_getElem? hc,hk⟩
theorem keyed_in (F:Fence) (n:Nat) (h1F:F.fn 144) (hKF:F.fn 120) (hDF:F.fn 89) (hro:F.round=none) (hn:3≤n) (oid ver:Int) (nm:ByteArray) (id:Int) (cols:List Col) (a:Option Addr) (cap:Nat) (w:World) (hl:Sl w (.slice a cols.length cap) 3 (cols.map Col.cells)) (hlen:cols.length≤1000):
 CallsIn F n Tryz.prog 89 #[.agg #[.int .u32 oid, .int .u32 ver, .string nm, .int .u8 id, .slice a cols.length cap]] w fun e w' =>e= .returned (.bool (cols.any Col.key))∧Ext w w' :=by
 have h1:1≤n:=by omega
 have HL:=Hm hl
 clear hl
 refine callsIn_of_wp_marks Tryz.func89 rfl hDF ?_ hro
 simp only [Tryz.ntmps89,List.size_toArray,List.length_cons,List.length_nil,Nat.reduceAdd,Nat.reduceSub,Array.replicate_succ,Array.replicate_zero,List.push_toArray,List.append_toArray,List.nil_append,List.cons_append]
 gi_wp2_with (gi_at_call 120;refine (keys_in F (n - 1) hKF hro _ _ _ _ _ _).mono ?_;rintro e w' ⟨rfl,rfl⟩)
 have hE3:Ext w (((w.alloc (.cells #[.int .u32 oid, .int .u32 ver, .string nm, .int .u8 id, .slice a cols.length cap] 72)).alloc (.cells #[.bool false] 4)).alloc (.cells #[.int .u32 oid, .int .u32 ver, .string nm, .int .u8 id, .slice a cols.length cap] 72)):=((Ext.refl w).alloc _).alloc _|>.alloc _
 have hB1:Blk (((w.alloc (.cells #[.int .u32 oid, .int .u32 ver, .string nm, .int .u8 id, .slice a cols.length cap] 72)).alloc (.cells #[.bool false] 4)).alloc (.cells #[.int .u32 oid, .int .u32 ver, .string nm, .int .u8 id, .slice a cols.length cap] 72)) (w.heap.size+1) #[.bool false] 4:=(Blk.new' _ _ (by simp)).alloc _
 have hB2:Blk (((w.alloc (.cells #[.int .u32 oid, .int .u32 ver, .string nm, .int .u8 id, .slice a cols.length cap] 72)).alloc (.cells #[.bool false] 4)).alloc (.cells #[.int .u32 oid, .int .u32 ver, .string nm, .int .u8 id, .slice a cols.length cap] 72)) (w.heap.size+1+1) #[.int .u32 oid, .int .u32 ver, .string nm, .int .u8 id, .slice a cols.length cap] 72:=Blk.new' _ _ (by simp)
 refine wpIn_rangeFunc_ownG hro h1 (gf:=144) (lb:= #[.pointer (some ⟨w.heap.size+1+1,0,none⟩)]) rfl h1F (enters_of Tryz.func144 (by kernel_rfl) rfl)
  (keys_stops F (n - 1) h1F hro (by omega) (w.heap.size+1+1) w a cap cols hlen HL.out _ hE3 (hB2.cell 4) hB2.lt) belowK_t (belowK_b (by simp;omega)) (Below.refl _ _) (fun _=>rfl)
  (fun pre W=>(pre= []∧W.cell? ⟨w.heap.size+1,0,none⟩=some (.bool false)∧W.frozen? ⟨w.heap.size+1,0,none⟩=false)∧Below w.heap.size w W)
  (fun c pre W=>(c= .ret∧pre≠ []∧W.cell? ⟨w.heap.size+1,0,none⟩=some (.bool true))∧Below w.heap.size w W)
  (OwnFrom.and (Own.from (fun s A B row hs hg hr=>⟨hs.1,cell_kept hs.2.1 hg hr,(frozen_kept hs.2.1 hg hr).trans hs.2.2⟩) _) (ownFrom_below (Nat.le_refl _) (by simp;omega)))
  (fun c=>OwnFrom.and (Own.from (fun s A B row hs hg hr=>⟨hs.1,hs.2.1,cell_kept hs.2.2 hg hr⟩) _) (ownFrom_below (Nat.le_refl _) (by simp;omega)))
  ⟨⟨rfl,hB1.cell 0,hB1.frozen 0⟩,hE3⟩
  (fun x=> { tmps:= #[.agg #[.int .u32 oid, .int .u32 ver, .string nm, .int .u8 id, .slice a cols.length cap], .pointer (some ⟨w.heap.size,0,none⟩), .pointer (some ⟨w.heap.size+1,0,none⟩), .agg #[.int .u32 oid, .int .u32 ver, .string nm, .int .u8 id, .slice a cols.length cap], .func (.func 144) #[] #[.pointer (some ⟨w.heap.size+1+1,0,none⟩)], .int .i64 (x.1.1:Int), .agg #[.string x.1.2.nm, .int .u8 x.1.2.ty, .bool x.1.2.key]],defers:= [] }) ?assign ?body ?done ?stop
 case assign=>
  intro l x W K hK
  unfold encK
  rw [fold_two]
  gi_wp2
  exact hK
 case body=>
  rintro l pre x W ⟨⟨rfl,hc,hf⟩,hB⟩ _
  gi_wp2
  exact ⟨(KeepsOthers.setCell _ _ _).from _,⟨rfl,by simp,World.cell?_setCell_same' _ _ _ (by rw [hc];rfl)⟩,hB.setCell (p:=⟨w.heap.size+1,0,none⟩) (by simp) _⟩
 case done=>
  rintro D ys W hD hys ⟨⟨rfl,hc,hf⟩,hB⟩ hK
  gi_wp2
  have hK' :=(KeepsOthers.setCell W ⟨w.heap.size+1,0,none⟩ (.bool false)).same D _ hK rfl
  refine ⟨by simp, .inl ⟨_,_,rfl,run_takeDeferred hK', ?_⟩⟩
  have hc5:=cell_kept (World.cell?_setCell_same' W ⟨w.heap.size+1,0,none⟩ (.bool false) (by rw [hc];rfl)) (grownBy_putObj' _ D (.deferred none)) (fun r e=>by cases e;exact ⟨_,hK',rfl⟩)
  refine ⟨.bool false, ?_,by rw [keysUp_none.1 hys.symm],(hB.setCell (p:=⟨w.heap.size+1,0,none⟩) (by simp) _).trans (belowK_b (w:=w) (Nat.le_refl _) _ D _ _ (by simp at hD;omega) hK' rfl rfl)⟩
  simp [results,Tryz.f89,go_sem,hc5]
 case stop=>
  rintro D c pre W hD ⟨k,hk,rfl⟩ ⟨⟨rfl,hne,hc⟩,hB⟩ hK
  gi_wp2
  refine ⟨by simp, .inl ⟨_,_,rfl,run_takeDeferred hK, ?_⟩⟩
  have hc5:=cell_kept hc (grownBy_putObj' _ D (.deferred none)) (fun r e=>by cases e;exact ⟨_,hK,rfl⟩)
  refine ⟨.bool true, ?_,by rw [keysUp_any hne],hB.trans (belowK_b (w:=w) (Nat.le_refl _) W D _ _ (by simp at hD;omega) hK rfl rfl)⟩
  simp [results,Tryz.f89,go_sem,hc5]
theorem keyed_any (oid ver:Int) (nm:ByteArray) (id:Int) (cols:List Col) (a:Option Addr) (cap:Nat) (w:World) (hl:Sl w (.slice a cols.length cap) 3 (cols.map Col.cells)) (hlen:cols.length≤1000):
 Calls Tryz.prog 89 #[.agg #[.int .u32 oid, .int .u32 ver, .string nm, .int .u8 id, .slice a cols.length cap]] w fun e w' =>e= .returned (.bool (cols.any Col.key))∧Ext w w' :=
 callsIn_wide.1 (keyed_in Fence.wide 3 trivial trivial trivial rfl (Nat.le_refl _) oid ver nm id cols a cap w hl hlen)
end Go.Proofs.YtgmphpccpfaapaaGreatDoor
