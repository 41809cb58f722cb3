/-
SessionOrder holds: for every input the call returns true, and each argument reads behind it as it did; the listed variables read as the program's text lays them (tied).
-/
import Derived.Test.YtgmphpccpfaapaaGreatDoorP47
import Derived.Test.YtgmphpccpfaapaaGreatDoorP37
import Derived.Test.YtgmphpccpfaapaaGreatDoorP36
import Derived.Test.YtgmphpccpfaapaaGreatDoorP24
import Derived.Test.YtgmphpccpfaapaaGreatDoorCards
import Derived.Test.YtgmphpccpfaapaaGreatDoorTie
import Derived.ProofKit
import Derived.LaidMore
import Derived.Stop.LaidErr
import Derived.Stop.Joined
import Derived.LaidHandle
import Derived.WideKeyElems2
set_option maxRecDepth 100000
set_option maxHeartbeats 16000000
namespace Go.Proofs.YtgmphpccpfaapaaGreatDoor
open Go.RowKit Go.ChangeShapes Go.WideShapes Go.ChangeAt
theorem of_laid {W:World} (h:laidMetH Tryz.prog Rows.sessionOrderRow.laid W):Tab W∧Non W∧Kin W∧NonS W:=by
 rw [MakeChecks.laidMetH_plain _ _ _ (by kernel_rfl)] at h
 have h3:=(laidMet.tail (laidMet.tail h))
 have h4:=laidMet.tail h3
 have h5:=laidMet.tail h4
 have h6:=laidMet.tail h5
 refine ⟨Lib.tabIs_of_head (g:=5) (t:=273) (e:=39) (n:=20) (by kernel_rfl) (by kernel_rfl) Tryz.underlying273 Tryz.underlying39 (by kernel_rfl) (by kernel_rfl) h3, ?_, ?_, ?_⟩
 ·obtain ⟨ps,⟨g',t',cs,fuel,p,q,hg',ht',hvar,hd,_,_⟩,_⟩:=h4
  have hgn:Tryz.prog.globalNamed "lacuna/fit.none" =some 1:=by kernel_rfl
  have htn:(Tryz.prog.globals[1]?).map (·.type)=some 31:=by kernel_rfl
  obtain rfl:=Option.some.inj (hgn.symm.trans hg')
  obtain rfl:=Option.some.inj (htn.symm.trans ht')
  have hvc:=fun k=>World.var?_cell hg' hvar k
  have hlt:1<W.heap.size:=by
   unfold World.var? at hvar
   rw [hg'] at hvar
   simp only [Option.bind_some] at hvar
   rcases Nat.lt_or_ge 1 W.heap.size with h' |h'
   ·exact h'
   ·rw [Array.getElem?_eq_none h'] at hvar;cases hvar
  obtain ⟨xs,m,e0,hx,hlen,hxl,hf⟩:=DataW.trod_struct Tryz.underlying31 hd
  have c0:Tryz.prog.cellsOf 31=3:=by kernel_rfl
  have c1:Tryz.prog.cellsOf 3=1:=by kernel_rfl
  have c2:Tryz.prog.cellsOf 29=1:=by kernel_rfl
  rw [c0] at hlen
  obtain ⟨l⟩:=cs
  match l,hlen with
  | [v0,v1,v2],_=>
   have h0:DataW.trod _ Tryz.prog W 0 _ _ m 3 ((([v0,v1,v2]:List Value).drop 0).take (Tryz.prog.cellsOf 3))=xs[0]? :=(hf 0 _ rfl).trans rfl
   have h1:DataW.trod _ Tryz.prog W 0 _ _ m 3 ((([v0,v1,v2]:List Value).drop 1).take (Tryz.prog.cellsOf 3))=xs[1]? :=(hf 1 _ rfl).trans rfl
   have h2:DataW.trod _ Tryz.prog W 0 _ _ m 29 ((([v0,v1,v2]:List Value).drop 2).take (Tryz.prog.cellsOf 29))=xs[2]? :=(hf 2 _ rfl).trans rfl
   rw [c1] at h0 h1
   rw [c2] at h2
   simp only [List.drop_succ_cons,List.drop_zero,List.take_succ_cons,List.take_zero] at h0 h1 h2
   match xs,hxl with
   | [x0,x1,x2],_=>
    obtain ⟨n0,r0,q0,_⟩:=DataW.trod_int Tryz.underlying3 (show DataW.trod _ Tryz.prog W 0 _ _ m 3 [v0]=some x0 from h0)
    obtain ⟨n1,r1,q1,_⟩:=DataW.trod_int Tryz.underlying3 (show DataW.trod _ Tryz.prog W 0 _ _ m 3 [v1]=some x1 from h1)
    obtain ⟨n2,r2,q2,_⟩:=DataW.trod_int Tryz.underlying29 (show DataW.trod _ Tryz.prog W 0 _ _ m 29 [v2]=some x2 from h2)
    have hx1:=congrArg Prod.fst hx
    rw [q0,q1,q2] at hx1
    unfold Rows.laid_lacuna_fit_none at hx1
    simp only [List.map_cons,List.map_nil,DataW.agg.injEq,List.cons.injEq,DataW.lit.injEq,Lit.int.injEq,true_and,and_true] at hx1
    obtain ⟨rfl,rfl,rfl⟩:=hx1
    simp only [List.cons.injEq,and_true] at r0 r1 r2
    subst r0 r1 r2
    exact ⟨⟨hvc 0,hvc 1,hvc 2⟩,hlt⟩
 ·obtain ⟨ps,⟨g',t',cs,fuel,p,q,hg',ht',hvar,hd,_,_⟩,_⟩:=h5
  have hgn:Tryz.prog.globalNamed "lacuna/wire.kinds" =some 2:=by kernel_rfl
  have htn:(Tryz.prog.globals[2]?).map (·.type)=some 155:=by kernel_rfl
  obtain rfl:=Option.some.inj (hgn.symm.trans hg')
  obtain rfl:=Option.some.inj (htn.symm.trans ht')
  have hvc:=fun k=>World.var?_cell hg' hvar k
  have hlt:2<W.heap.size:=by
   unfold World.var? at hvar
   rw [hg'] at hvar
   simp only [Option.bind_some] at hvar
   rcases Nat.lt_or_ge 2 W.heap.size with h' |h'
   ·exact h'
   ·rw [Array.getElem?_eq_none h'] at hvar;cases hvar
  rcases WideElems.open_map Tryz.underlying155 hd with ⟨_,hx⟩|⟨b,es,clock,n,_,hcs,hb,_,F,hx⟩
  ·have hx1:=congrArg Prod.fst hx
   cases hx1
  ·have hx1:Rows.laid_lacuna_wire_kinds=DataW.map _:=congrArg Prod.fst hx
   have hown:=World.ownsMap_of_fit (R:=plainElem Tryz.prog 5) hb F (fun x _ z hz=>elemAt_plainElem_int Tryz.underlying5 hz)
   rw [←hx1] at hown
   have h4:es.size=4:=by
    unfold Rows.laid_lacuna_wire_kinds at hx1
    simp only [DataW.map.injEq] at hx1
    have h5:=congrArg List.length hx1
    rw [length_read] at h5
    exact h5.symm
   rw [h4] at hown
   obtain ⟨l⟩:=cs
   have hcs:l= [.map (some b)]:=hcs
   subst hcs
   exact ⟨b,hvc 0,hown,hlt⟩
 ·obtain ⟨ps,⟨g',t',cs,fuel,p,q,hg',ht',hvar,hd,_,_⟩,_⟩:=h6
  have hgn:Tryz.prog.globalNamed "lacuna/session.none" =some 0:=by kernel_rfl
  have htn:(Tryz.prog.globals[0]?).map (·.type)=some 31:=by kernel_rfl
  obtain rfl:=Option.some.inj (hgn.symm.trans hg')
  obtain rfl:=Option.some.inj (htn.symm.trans ht')
  have hvc:=fun k=>World.var?_cell hg' hvar k
  have hlt:0<W.heap.size:=by
   unfold World.var? at hvar
   rw [hg'] at hvar
   simp only [Option.bind_some] at hvar
   rcases Nat.lt_or_ge 0 W.heap.size with h' |h'
   ·exact h'
   ·rw [Array.getElem?_eq_none h'] at hvar;cases hvar
  obtain ⟨xs,m,e0,hx,hlen,hxl,hf⟩:=DataW.trod_struct Tryz.underlying31 hd
  have c0:Tryz.prog.cellsOf 31=3:=by kernel_rfl
  have c1:Tryz.prog.cellsOf 3=1:=by kernel_rfl
  have c2:Tryz.prog.cellsOf 29=1:=by kernel_rfl
  rw [c0] at hlen
  obtain ⟨l⟩:=cs
  match l,hlen with
  | [v0,v1,v2],_=>
   have h0:DataW.trod _ Tryz.prog W 0 _ _ m 3 ((([v0,v1,v2]:List Value).drop 0).take (Tryz.prog.cellsOf 3))=xs[0]? :=(hf 0 _ rfl).trans rfl
   have h1:DataW.trod _ Tryz.prog W 0 _ _ m 3 ((([v0,v1,v2]:List Value).drop 1).take (Tryz.prog.cellsOf 3))=xs[1]? :=(hf 1 _ rfl).trans rfl
   have h2:DataW.trod _ Tryz.prog W 0 _ _ m 29 ((([v0,v1,v2]:List Value).drop 2).take (Tryz.prog.cellsOf 29))=xs[2]? :=(hf 2 _ rfl).trans rfl
   rw [c1] at h0 h1
   rw [c2] at h2
   simp only [List.drop_succ_cons,List.drop_zero,List.take_succ_cons,List.take_zero] at h0 h1 h2
   match xs,hxl with
   | [x0,x1,x2],_=>
    obtain ⟨n0,r0,q0,_⟩:=DataW.trod_int Tryz.underlying3 (show DataW.trod _ Tryz.prog W 0 _ _ m 3 [v0]=some x0 from h0)
    obtain ⟨n1,r1,q1,_⟩:=DataW.trod_int Tryz.underlying3 (show DataW.trod _ Tryz.prog W 0 _ _ m 3 [v1]=some x1 from h1)
    obtain ⟨n2,r2,q2,_⟩:=DataW.trod_int Tryz.underlying29 (show DataW.trod _ Tryz.prog W 0 _ _ m 29 [v2]=some x2 from h2)
    have hx1:=congrArg Prod.fst hx
    rw [q0,q1,q2] at hx1
    unfold Rows.laid_lacuna_session_none at hx1
    simp only [List.map_cons,List.map_nil,DataW.agg.injEq,List.cons.injEq,DataW.lit.injEq,Lit.int.injEq,true_and,and_true] at hx1
    obtain ⟨rfl,rfl,rfl⟩:=hx1
    simp only [List.cons.injEq,and_true] at r0 r1 r2
    subst r0 r1 r2
    exact ⟨⟨hvc 0,hvc 1,hvc 2⟩,hlt⟩
theorem door_met (os:Os) (args:Array Value):laidMetH Tryz.prog Rows.sessionOrderRow.laid ((World.doorLaid Tryz.prog 400 os).forCall (fun _ _=>0) ⟨#[],args, []⟩).memory:=
 laidMetH_of_parts3 (fuel:=8) (laidMet_of_run' 8 (by kernel_rfl) (by kernel_rfl)) (by kernel_rfl) (by kernel_rfl)
theorem sessionOrder_lifted (os:Os) (started:os.Started) (H:Type) (enc:TypeId×Value→H):
 ReturnsInHanded {} Tryz.checked os 3 .any (fun w args=>(Rows.sessionOrderSpec.pre enc Tryz.prog Tryz.f3 [] false w args∧laidMetH Tryz.prog Rows.sessionOrderRow.laid w)∧sizedMet enc Tryz.prog Tryz.f3 (OpenSpec.ofChange Rows.sessionOrderSpec) false w args) (Rows.sessionOrderSpec.post enc Tryz.prog Tryz.f3 false true false false):=by
 refine returnsInHanded_of_change_and (C:=Tryz.checked) (X:=fun w _=>laidMetH Tryz.prog Rows.sessionOrderRow.laid w) (fun _ _ _ hh h=>h.of_heap hh) Tryz.ownG started (by kernel_rfl) Tryz.func3
  (ChangeSpec.witness_shaped (enc:=enc) (C:=Tryz.checked) (os:=os) (X:=fun w _=>laidMetH Tryz.prog Rows.sessionOrderRow.laid w) false (World.doorLaid Tryz.prog 400 os) #[.slice none 0 0, .slice none 0 0] 8 rfl (World.shaped_of_RefB (by kernel_rfl) (by kernel_rfl)) (by kernel_rfl) (by kernel_rfl) (by kernel_rfl) (door_met os _)) ?_
 intro W base args ds gs before hval0 hW _ hsz hL _
 have hval:∀(j:Nat) t v,Tryz.f3.params[j]? =some t→args[j]? =some v→Value.okWide Tryz.prog W .any base t v:=hval0
 have hW' :=hW
 obtain ⟨p,q,hA0,hV,rfl,hfz,hnd⟩:=hW
 have hA:DataW.TrodAll enc Tryz.prog W 0 (fun _=>true) true Tryz.f3.params.toList args.toList ds p:=hA0
 rw [Tryz.params3] at hA hval hsz
 obtain ⟨v0,v1,d0,d1,p0,p1,rfl,rfl,rfl,h0,h1⟩:=trodAll_two hA
 obtain ⟨rfl,rfl⟩:=trodVars_none hV
 have b0:=hval 0 22 v0 rfl rfl
 have k0:=h0
 have t0:∀q∈d0.weights Tryz.prog 22,q≤reachBytes:=fun q hq=>of_decide_eq_true (List.all_eq_true.1 hsz q (DataW.weights_mem_each (j:=0) (t:=22) (d:=d0) rfl rfl q hq))
 obtain ⟨lC,aC,capC,rfl,hlC,hlenC,hbC,hBC⟩:=openG_relsB k0 b0 t0
 have b1:=hval 1 23 v1 rfl rfl
 have k1:=h1
 have t1:∀q∈d1.weights Tryz.prog 23,q≤reachBytes:=fun q hq=>of_decide_eq_true (List.all_eq_true.1 hsz q (DataW.weights_mem_each (j:=1) (t:=23) (d:=d1) rfl rfl q hq))
 obtain ⟨lL,aL,capL,rfl,hlL,hlenL,zL,wL⟩:=openG_txs13w k1 b1 t1
 obtain ⟨hT,hN,hK,hS⟩:=of_laid hL
 refine (order_law lC aC capC lL aL capL W hT hK hN hS hlC hbC hBC hlenC hlL hlenL zL wL).mono fun e W' ⟨he,hE⟩=> ?_
 subst he
 exact ⟨_,rfl,post_law Tryz.laidOutG Tryz.underlying4 (by kernel_rfl) (by kernel_rfl) rfl hW' rfl rfl rfl hE⟩
theorem sessionOrder_row:Rows.SessionOrderSaid:=
 OpenClaim.holds_of_wide 3 Tryz.f3 rfl rfl rfl rfl rfl rfl rfl ⟨rfl,rfl,rfl,rfl,rfl⟩ rfl rfl rfl rfl rfl (by kernel_rfl) Tryz.func3 (by kernel_rfl)
  (of_decide_eq_true (by kernel_rfl)) (by unfold Func.isWrapper;first|(rw [if_pos (by decide+kernel)];kernel_rfl)|(rw [if_neg (by decide+kernel)];exact ⟨rfl,rfl⟩))
  (fun os started H enc _=>sessionOrder_lifted os started H enc)
theorem sessionOrder_holds:Rows.SessionOrderCardSaid:=
 Claim7.holds_tied_plain_at .later [] [.data, .data, .data, .data, .mapped, .data] true Rows.sessionOrderCard.stood.harness true
  sessionOrder_row (fun _ h=>by cases h) (by kernel_rfl) (fun _ h=>by cases h) sessionOrder_row_tie rfl ⟨rfl,rfl⟩ (by kernel_rfl) rfl
  (fun f fn hf hfn=>by
   obtain rfl:f=3:=Option.some.inj ((show Tryz.prog.funcNamed Rows.sessionOrderRow.func=some 3 by kernel_rfl).symm.trans hf)|>.symm
   obtain rfl:fn=Tryz.f3:=(Option.some.inj (Tryz.func3.symm.trans hfn)).symm
   exact ⟨by kernel_rfl,fun j t ht=>by
    rw [Tryz.params3] at ht
    have hm:t∈ [22,23]:=by
     have:=Array.mem_of_getElem? ht
     simpa using this
    have hall:([22,23].all fun u=> !Tryz.prog.wantsStandIn u)=true:=by kernel_rfl
    exact (show Tryz.prog.wantsStandIn t=false by simpa using List.all_eq_true.1 hall t hm)⟩)
  (by kernel_rfl)
#print axioms sessionOrder_holds
end Go.Proofs.YtgmphpccpfaapaaGreatDoor
