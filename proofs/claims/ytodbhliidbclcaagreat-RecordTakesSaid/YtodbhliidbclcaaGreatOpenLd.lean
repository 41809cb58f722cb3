/-
A payload and pieces of the arguments, opened.
-/
import Derived.Test.YtodbhliidbclcaaGreatP30
set_option maxRecDepth 100000
set_option maxHeartbeats 16000000
namespace Go.Proofs.YtodbhliidbclcaaGreat
open Go.RowKit Go.ChangeShapes Go.WideShapes Go.ChangeAt
theorem Tryz.flatLoadG:flat Tryz.prog 4 26=some [5,5,23,24]:=by kernel_rfl
section
variable {H : Type} {enc : TypeId × Value → H} {w : World} {base : Nat} {spare : Nat → Bool} {held : Bool} {r : Reach} {base2 : Nat} {v : Value} {d : DataW H} {ps : List MemPlace}
theorem Lf.caps {P:Program} {T E:TypeId} (ht:P.underlying T=some (.slice E)) {a:Option Addr} {len cap:Nat} (h:Lf enc P w base spare held T (.slice a len cap)):(len≤cap∧cap≤maxLen)∧(a=none→cap=0):=by
 obtain ⟨m,x,h4⟩:=h
 rcases Go.Deep.open_slice ht h4 with ⟨e,_⟩|⟨a',len',cap',m,q,D,Pl,e,_,hl,hm,_⟩
 ·simp at e
  obtain ⟨rfl,rfl,rfl⟩:=e
  exact ⟨⟨Nat.le_refl _,Nat.zero_le _⟩,fun _=>rfl⟩
 ·simp at e
  obtain ⟨rfl,rfl,rfl⟩:=e
  exact ⟨⟨hl,hm⟩,fun h=>by cases h⟩
theorem Lf.texts {c:Value} (h:Lf enc Tryz.prog w base spare held 24 c):∃(l:List ByteArray) (a:Option Addr) (cap:Nat),c= .slice a l.length cap∧Sl w (.slice a l.length cap) 1 (l.map strC)∧l.length≤9223372036854775807∧∀t∈l,t.size≤9223372036854775807:=by
 obtain ⟨m,x,h4⟩:=h
 obtain ⟨v',xss,hcs,hsl,hlen,hx⟩:=trod_sl Tryz.underlying24 Tryz.cellsStrG (by decide) h4
 obtain rfl:c=v' :=by simpa using hcs
 obtain ⟨l,rfl,hl⟩:=exists_map (f:=strC) (p:=fun (s:ByteArray)=>s.size≤9223372036854775807) xss (fun xs hxs=>by
  obtain ⟨_,n,x,h⟩:=hx xs hxs
  have hl:=flat_open 4 _ _ n xs x Tryz.flatStrG h
  match xs,hl with
  | [c0],⟨l0,_⟩=>
   obtain ⟨s,rfl,hs⟩:=l0.string Tryz.underlying9
   exact ⟨s,rfl,hs⟩)
 obtain ⟨a,cap,rfl,hshape⟩:=hsl.shape (n:=l.length) (by simp)
 exact ⟨l,a,cap,rfl,hsl,by simpa using hlen,hl⟩
theorem openG_load (h:DataW.Trod enc Tryz.prog w base spare held 26 v d ps) (hv:Value.okWide Tryz.prog w r base2 26 v):
 ∃(kd vr:Int) (lb:List Int) (ab:Option Addr) (cb:Nat) (pc:List ByteArray) (ap:Option Addr) (cp:Nat),v= .agg #[.int .u8 kd, .int .u8 vr, .slice ab lb.length cb, .slice ap pc.length cp]∧(0≤kd∧kd<256)∧(0≤vr∧vr<256)∧
  Sl w (.slice ab lb.length cb) 1 (lb.map bcell)∧lb.length≤9223372036854775807∧isB lb∧((lb.length≤cb∧cb≤maxLen)∧(ab=none→cb=0))∧
  Sl w (.slice ap pc.length cp) 1 (pc.map strC)∧pc.length≤9223372036854775807∧(∀t∈pc,t.size≤9223372036854775807)∧(pc.length≤cp∧cp≤maxLen):=by
 obtain ⟨cs,rfl,_⟩:=okWide_struct Tryz.underlying26 hv
 obtain ⟨n,hn⟩:=h
 have hl:=flat_open 4 _ _ n _ _ Tryz.flatLoadG hn
 have hl' :Lfs enc Tryz.prog w base spare held [5,5,23,24] cs.toList:=hl
 obtain ⟨cl,hcl2⟩:∃cl,cs.toList=cl:=⟨_,rfl⟩
 rw [hcl2] at hl'
 match cl,hl' with
 | [c0,c1,c2,c3],⟨l0,l1,l2,l3,_⟩=>
  obtain ⟨kd,rfl,h0⟩:=l0.int Tryz.underlying5
  obtain ⟨vr,rfl,h1⟩:=l1.int Tryz.underlying5
  obtain ⟨lb,ab,cb,rfl,b1,b2,b3⟩:=l2.bytes
  obtain ⟨pc,ap,cp,rfl,q1,q2,q3⟩:=l3.texts
  have k1:=l2.caps Tryz.underlying23
  have k2:=l3.caps Tryz.underlying24
  have e:cs= #[.int .u8 kd, .int .u8 vr, .slice ab lb.length cb, .slice ap pc.length cp]:=Array.toList_inj.1 hcl2
  exact ⟨kd,vr,lb,ab,cb,pc,ap,cp,by rw [e],wfG_u8 h0,wfG_u8 h1,b1,b2,b3,k1,q1,q2,q3,k2.1⟩
end
end Go.Proofs.YtodbhliidbclcaaGreat
