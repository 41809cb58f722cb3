/-
The walk through a text in pieces of 256 bytes: chunk.Walk and its closure, for every loop body.
-/
import Derived.RangeFuncNested
import Derived.RangeFuncBound
import Derived.RangeFuncCalls
import Derived.RangeFuncLeaves
import Derived.RangeFuncBox
import Derived.Shelf.Abstract
import Derived.Shelf.RegionOpen
import Derived.OwnWalkIn
import Derived.TacticsInMore
import Derived.LoopNIn
import Derived.LoopIn
import Derived.RangeFuncRecord
import Derived.Sort.LoopGhostIn
import Derived.Maps.AppendAt
import Derived.Test.YtodbhliidbclcaaGreatP19
set_option maxRecDepth 100000
set_option maxHeartbeats 16000000
namespace Go.Proofs.YtodbhliidbclcaaGreat
open Go.RowKit Go.Shelf
attribute [local go_sem] Oper.semAt_some
def pc (s:ByteArray) (i:Nat):ByteArray:=s.extract (256*i) (min (256*i+256) s.size)
end Go.Proofs.YtodbhliidbclcaaGreat
namespace Go.Proofs.YtodbhliidbclcaaGreat
open Go.RowKit
open Go.RowKit Go.Shelf
section
variable {P : Program} {F : Fence} {n : Nat}
end
end Go.Proofs.YtodbhliidbclcaaGreat
namespace Go.Proofs.YtodbhliidbclcaaGreat
open Go.RowKit Go.Shelf
attribute [local go_sem] Oper.semAt_some
end Go.Proofs.YtodbhliidbclcaaGreat
namespace Go.Proofs.YtodbhliidbclcaaGreat
open Go.RowKit Go.Shelf
attribute [local go_sem] Oper.semAt_some
theorem owns_caps {w:World} {base n size c:Nat} {e:TypeId} {a:Option Addr} {xs:List Value} (h:w.ownsRow base e size (.slice a n c) n xs):n≤c∧c≤maxLen:=by
 rcases h.2 with ⟨hv,hn⟩|⟨g,cap,cur,hv, -, -,hn,hm, -⟩
 ·simp only [Value.slice.injEq] at hv;omega
 ·simp only [Value.slice.injEq] at hv;omega
end Go.Proofs.YtodbhliidbclcaaGreat
namespace Go.Proofs.YtodbhliidbclcaaGreat
open Go.RowKit
def catL (l:List ByteArray):ByteArray:=⟨((l.map fun s=>s.data.toList).flatten).toArray⟩
theorem bytes_ext {a b:ByteArray} (h:a.data.toList=b.data.toList):a=b:=ByteArray.ext (Array.toList_inj.1 h)
theorem catL_list (l:List ByteArray):(catL l).data.toList=(l.map fun s=>s.data.toList).flatten:=by unfold catL;simp
theorem app_list (a b:ByteArray):(a++b).data.toList=a.data.toList++b.data.toList:=by rw [ByteArray.data_append,Array.toList_append]
theorem catL_append (l m:List ByteArray):catL (l++m)=catL l++catL m:=bytes_ext (by rw [app_list,catL_list,catL_list,catL_list];simp)
theorem catL_one (s:ByteArray):catL [s]=s:=bytes_ext (by rw [catL_list];simp)
theorem catL_snoc (l:List ByteArray) (s:ByteArray):catL (l++ [s])=catL l++s:=by rw [catL_append,catL_one]
theorem size_list (s:ByteArray):s.size=s.data.toList.length:=by rw [Array.length_toList];rfl
theorem catL_size (l:List ByteArray):(catL l).size=(l.map ByteArray.size).sum:=by
 induction l with
 |nil=>rfl
 |cons s l ih=>
  have h:catL (s::l)=catL [s]++catL l:=by rw [←catL_append];rfl
  rw [h,ByteArray.size_append,ih,catL_one,List.map_cons,List.sum_cons]
theorem ext_list (s:ByteArray) (i j:Nat):(s.extract i j).data.toList=(s.data.toList.take j).drop i:=by rw [ByteArray.data_extract,Array.toList_extract,List.extract_eq_take_drop,List.drop_take]
theorem ext_front (a b:ByteArray):(a++b).extract 0 a.size=a:=bytes_ext (by rw [ext_list,app_list,size_list,List.drop_zero,List.take_left])
theorem ext_back (a b:ByteArray):(a++b).extract a.size (a++b).size=b:=bytes_ext (by
 rw [ext_list,app_list,ByteArray.size_append,List.take_of_length_le (by rw [List.length_append,←size_list,←size_list];exact Nat.le_refl _),size_list,List.drop_left])
def nOf (n:Nat):Nat:=(n+255) / 256
def lenAt (n i:Nat):Nat:=min 256 (n - 256*i)
def lens1 (n:Nat):List Nat:=(List.range (nOf n)).map (lenAt n)
def lensL (ns:List Nat):List Nat:=(ns.map lens1).flatten
def sumN (ns:List Nat):Nat:=(ns.map nOf).sum
theorem lens1_len (n:Nat):(lens1 n).length=nOf n:=by simp [lens1]
theorem lensL_cons (n:Nat) (ns:List Nat):lensL (n::ns)=lens1 n++lensL ns:=by simp [lensL]
theorem sumN_cons (n:Nat) (ns:List Nat):sumN (n::ns)=nOf n+sumN ns:=by simp [sumN]
theorem lensL_len:∀ns:List Nat,(lensL ns).length=sumN ns
 | []=>rfl
 |n::ns=>by rw [lensL_cons,List.length_append,lens1_len,lensL_len ns,sumN_cons]
theorem sumN_take {ns:List Nat} {k:Nat} (hk:k<ns.length):sumN (ns.take (k+1))=sumN (ns.take k)+nOf ns[k]:=by
 unfold sumN
 rw [List.take_succ_eq_append_getElem hk,List.map_append,List.sum_append,List.map_cons,List.map_nil,List.sum_cons,List.sum_nil,Nat.add_zero]
theorem lens1_big {n:Nat} (h:256<n):lens1 n=256::lens1 (n - 256):=by
 have e:nOf n=nOf (n - 256)+1:=by unfold nOf;omega
 unfold lens1
 rw [e,List.range_succ_eq_map,List.map_cons,List.map_map]
 refine List.cons_eq_cons.2 ⟨?_, ?_⟩
 ·unfold lenAt;omega
 ·refine List.map_congr_left (fun j _=> ?_)
  simp only [Function.comp_def,Nat.succ_eq_add_one,lenAt]
  omega
theorem lens1_one {n:Nat} (h: ¬ 256<n) (h0:n≠0):lens1 n= [n]:=by
 have e:nOf n=1:=by unfold nOf;omega
 unfold lens1
 rw [e,show List.range 1= [0] from rfl,List.map_cons,List.map_nil]
 refine List.cons_eq_cons.2 ⟨?_,rfl⟩
 unfold lenAt
 omega
theorem lens1_at {n i:Nat} (h:i<nOf n):(lens1 n)[i]? =some (lenAt n i):=by
 unfold lens1
 rw [List.getElem?_map,List.getElem?_range h];rfl
theorem lensL_at:∀ {ns:List Nat} {k i:Nat} (hk:k<ns.length),i<nOf ns[k]→(lensL ns)[sumN (ns.take k)+i]? =some (lenAt ns[k] i)
 |n::ns,0,i,_,h=>by
  rw [lensL_cons,List.take_zero]
  simp only [List.getElem_cons_zero] at h⊢
  rw [show sumN []+i=i by simp [sumN],List.getElem?_append_left (by rw [lens1_len];exact h),lens1_at h]
 |n::ns,k+1,i,hk,h=>by
  simp only [List.getElem_cons_succ] at h⊢
  rw [lensL_cons,List.take_succ_cons,sumN_cons,List.getElem?_append_right (by rw [lens1_len];omega),lens1_len,show nOf n+sumN (ns.take k)+i - nOf n=sumN (ns.take k)+i by omega]
  exact lensL_at (by simpa using hk) h
theorem lenAt_pos {n i:Nat} (h:i<nOf n):0<lenAt n i:=by unfold nOf at h;unfold lenAt;omega
theorem lenAt_sum (n:Nat):∀i,i≤nOf n→((List.range i).map (lenAt n)).sum=min (256*i) n
 |0,_=>by simp
 |i+1,h=>by
  have ih:=lenAt_sum n i (by omega)
  have h1:i<nOf n:=h
  unfold nOf at h1
  rw [List.range_succ,List.map_append,List.sum_append,ih]
  simp only [List.map_cons,List.map_nil,List.sum_cons,List.sum_nil,lenAt]
  omega
def joinE (ps:List ByteArray) (ns:List Int):Int:=if ns.any (fun n=>decide (n<0∨2048<n)) then 4 else if ps.map ByteArray.size=lensL (ns.map Int.toNat) then 0 else 16
def joinT:List ByteArray→List Nat→List ByteArray
 |_, []=> []
 |ps,n::ns=>catL (ps.take (nOf n))::joinT (ps.drop (nOf n)) ns
def joinW (ps:List ByteArray) (ns:List Int):List ByteArray:=if joinE ps ns=0 then joinT ps (ns.map Int.toNat) else []
def cutT:ByteArray→List Nat→List ByteArray
 |_, []=> []
 |s,n::ns=>s.extract 0 n::cutT (s.extract n s.size) ns
theorem joinT_len:∀(ps:List ByteArray) (ns:List Nat),(joinT ps ns).length=ns.length
 |_, []=>rfl
 |ps,n::ns=>by simp [joinT,joinT_len _ ns]
theorem joinT_take:∀ {ns:List Nat} {k:Nat} (hk:k<ns.length) (ps:List ByteArray),joinT ps (ns.take (k+1))=joinT ps (ns.take k)++ [catL ((ps.drop (sumN (ns.take k))).take (nOf ns[k]))]
 |n::ns,0,_,ps=>by simp [joinT,sumN]
 |n::ns,k+1,hk,ps=>by
  have ih:=joinT_take (ns:=ns) (k:=k) (by simpa using hk) (ps.drop (nOf n))
  simp only [List.take_succ_cons,joinT,List.getElem_cons_succ,List.cons_append]
  rw [ih,sumN_cons,List.drop_drop]
theorem front_size {qs:List ByteArray} {n:Nat} (h:qs.map ByteArray.size=lens1 n) {i:Nat} (hi:i≤nOf n):(catL (qs.take i)).size=min (256*i) n:=by
 have e:(qs.take i).map ByteArray.size=(List.range i).map (lenAt n):=by
  rw [List.map_take,h]
  unfold lens1
  rw [←List.map_take,List.take_range,Nat.min_eq_left hi]
 rw [catL_size,e,lenAt_sum n i hi]
theorem sizes_len {qs:List ByteArray} {ns:List Nat} (h:qs.map ByteArray.size=ns):qs.length=ns.length:=by rw [←h,List.length_map]
theorem front_all {qs:List ByteArray} {n:Nat} (h:qs.map ByteArray.size=lens1 n):(catL qs).size=n:=by
 have hl:=sizes_len h
 rw [lens1_len] at hl
 have:=front_size h (Nat.le_refl _)
 rw [←hl,List.take_length] at this
 rw [this,hl];unfold nOf;omega
theorem sizes_cut {ps:List ByteArray} {n:Nat} {ns:List Nat} (h:ps.map ByteArray.size=lensL (n::ns)):(ps.take (nOf n)).map ByteArray.size=lens1 n∧(ps.drop (nOf n)).map ByteArray.size=lensL ns:=by
 rw [lensL_cons] at h
 rw [List.map_take,List.map_drop,h,←lens1_len n,List.take_left,List.drop_left]
 exact ⟨rfl,rfl⟩
theorem cut_join:∀(ns:List Nat) (ps:List ByteArray),ps.map ByteArray.size=lensL ns→cutT (catL ps) ns=joinT ps ns
 | [],_,_=>rfl
 |n::ns,ps,h=>by
  obtain ⟨h1,h2⟩:=sizes_cut h
  have h3:=front_all h1
  have e:catL ps=catL (ps.take (nOf n))++catL (ps.drop (nOf n)):=by rw [←catL_append,List.take_append_drop]
  unfold cutT joinT
  have e1:(catL ps).extract 0 n=catL (ps.take (nOf n)):=by
   have:=ext_front (catL (ps.take (nOf n))) (catL (ps.drop (nOf n)))
   rwa [h3,←e] at this
  have e2:(catL ps).extract n (catL ps).size=catL (ps.drop (nOf n)):=by
   have:=ext_back (catL (ps.take (nOf n))) (catL (ps.drop (nOf n)))
   rwa [h3,←e] at this
  rw [e1,e2,cut_join ns _ h2]
theorem join_sizes:∀(ns:List Nat) (ps:List ByteArray),ps.map ByteArray.size=lensL ns→(joinT ps ns).map ByteArray.size=ns
 | [],_,_=>rfl
 |n::ns,ps,h=>by
  obtain ⟨h1,h2⟩:=sizes_cut h
  unfold joinT
  rw [List.map_cons,front_all h1,join_sizes ns _ h2]
def Mat (ps:List ByteArray) (l:List Nat) (p:Nat):Prop:=∀q,q<p→∃h:q<ps.length,l[q]? =some ps[q].size
theorem Mat.zero (ps:List ByteArray) (l:List Nat):Mat ps l 0:=fun _ h=>absurd h (Nat.not_lt_zero _)
theorem Mat.succ {ps:List ByteArray} {l:List Nat} {p:Nat} (h:Mat ps l p) (hp:p<ps.length) (he:l[p]? =some ps[p].size):Mat ps l (p+1):=fun q hq=>by
 by_cases e:q=p
 ·subst e;exact ⟨hp,he⟩
 ·exact h q (by omega)
theorem Mat.all {ps:List ByteArray} {l:List Nat} (h:Mat ps l l.length) (hl:ps.length=l.length):ps.map ByteArray.size=l:=by
 apply List.ext_getElem
 ·rw [List.length_map,hl]
 ·intro i h1 h2
  obtain ⟨h3,h4⟩:=h i h2
  rw [List.getElem?_eq_getElem h2] at h4
  rw [List.getElem_map]
  exact (Option.some.inj h4).symm
theorem strC_one {xs:List ByteArray} :∀ys∈xs.map strC,ys.length=1:=by intro ys hys;simp at hys;obtain ⟨_,_,rfl⟩:=hys;rfl
def sizesP (p:Pt):List Int:=p.hb.map Ho.n++p.ha.map Ho.n
def textsP (p:Pt) (ps:List ByteArray):List ByteArray:=joinT ps ((sizesP p).map Int.toNat)
def fillPE (p:Pt) (ps:List ByteArray):Int:=
 if joinE ps (sizesP p)≠0 then joinE ps (sizesP p)
 else if fillE p.e.b p.hb ((textsP p ps).take p.hb.length)≠0 then fillE p.e.b p.hb ((textsP p ps).take p.hb.length)
 else fillE p.e.a p.ha ((textsP p ps).drop p.hb.length)
def fillPV (p:Pt) (ps:List ByteArray):Ev:=
 if fillPE p ps=0 then { p.e with b:=fillUp p.e.b p.hb ((textsP p ps).take p.hb.length) p.hb.length,a:=fillUp p.e.a p.ha ((textsP p ps).drop p.hb.length) p.ha.length } else Ev.zero
theorem joinE_zero {ps:List ByteArray} {ns:List Int} (h:joinE ps ns=0):(∀n∈ns,0≤n∧n≤2048)∧ps.map ByteArray.size=lensL (ns.map Int.toNat):=by
 unfold joinE at h
 split at h
 ·cases h
 rename_i h1
 split at h
 ·rename_i h2
  refine ⟨fun n hn=> ?_,h2⟩
  have h3:ns.any (fun n=>decide (n<0∨2048<n))=false:=by simpa using h1
  rw [List.any_eq_false] at h3
  have:=h3 n hn
  simp only [decide_eq_true_eq] at this
  omega
 ·cases h
end Go.Proofs.YtodbhliidbclcaaGreat
