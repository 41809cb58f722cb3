/-
RecordTakes holds: for every input the call returns true, and each argument reads behind it as it did.
-/
import Derived.Test.YtodbhliidbclcaaGreatP30
import Derived.Test.YtodbhliidbclcaaGreatRTkLaw
import Derived.Test.YtodbhliidbclcaaGreatOpenLd
set_option maxRecDepth 100000
set_option maxHeartbeats 16000000
namespace Go.Proofs.YtodbhliidbclcaaGreat
open Go.RowKit Go.ChangeShapes Go.WideShapes Go.ChangeAt
theorem recordTakes_lifted (os:Os) (started:os.Started) (H:Type) (enc:TypeId×Value→H):
 ReturnsInHanded {} Tryz.checked os 3 .any (Rows.recordTakesSpec.pre6 enc Tryz.prog Tryz.f3 Rows.recordTakesRow.domain false) (Rows.recordTakesSpec.post enc Tryz.prog Tryz.f3 false true false false):=by
 refine returnsInHanded_of_change_sized (C:=Tryz.checked) Tryz.ownG started (by kernel_rfl) Tryz.func3
  (ChangeSpec.witness6 (enc:=enc) (C:=Tryz.checked) false ⟨#[], #[.slice none 0 0, .agg #[.int .u8 0, .int .u8 0, .slice none 0 0, .slice none 0 0]], []⟩ 8 (by kernel_rfl) (by kernel_rfl) (by kernel_rfl) (by kernel_rfl)) ?_
 intro W base args ds gs before hval0 hW hcnd hsz _
 have hval:∀(j:Nat) t v,Tryz.f3.params[j]? =some t→args[j]? =some v→Value.okWide Tryz.prog W .any base t v:=hval0
 have hW' :=hW
 obtain ⟨p,q,hA0,hV,rfl,hfz,hnd⟩:=hW
 have hA:DataW.TrodAll enc Tryz.prog W 0 (fun _=>true) true Tryz.f3.params.toList args.toList ds p:=hA0
 rw [Tryz.params3] at hA hval hsz
 obtain ⟨v0,v1,d0,d1,p0,p1,rfl,rfl,rfl,h0,h1⟩:=trodAll_two hA
 obtain ⟨rfl,rfl⟩:=trodVars_none hV
 have b0:=hval 0 22 v0 rfl rfl
 have k0:=h0
 have t0:∀q∈d0.weights Tryz.prog 22,q≤reachBytes:=fun q hq=>of_decide_eq_true (List.all_eq_true.1 hsz q (DataW.weights_mem_each (j:=0) (t:=22) (d:=d0) rfl rfl q hq))
 obtain ⟨lC,aC,capC,rfl,hlC,hlenC,hbC⟩:=openG_rels k0 b0 t0
 have b1:=hval 1 26 v1 rfl rfl
 have k1:=h1
 have t1:∀q∈d1.weights Tryz.prog 26,q≤reachBytes:=fun q hq=>of_decide_eq_true (List.all_eq_true.1 hsz q (DataW.weights_mem_each (j:=1) (t:=26) (d:=d1) rfl rfl q hq))
 obtain ⟨kdL,vrL,lbL,abL,cbL,pcL,apL,cpL,rfl,hkdL,hvrL,hlbL,hlblL,hibL,hcbL,hpcL,hplL,hpsL,hcpL⟩:=openG_load k1 b1
 refine (rectakes_law lC aC capC kdL vrL lbL abL cbL pcL apL cpL W hlC hbC hlenC hlbL hlblL ⟨hcbL.1.1,hcbL.2⟩ hibL hpcL hplL hcpL hpsL).mono fun e W' ⟨he,hE⟩=> ?_
 subst he
 exact ⟨_,rfl,post_law Tryz.laidOutG Tryz.underlying4 (by kernel_rfl) (by kernel_rfl) rfl hW' rfl rfl rfl hE⟩
theorem recordTakes_inpl:(Rows.recordTakesRow.inPlace==Tryz.prog.inPlace 3)=true:=by kernel_rfl
theorem recordTakes_unf:(Rows.recordTakesRow.unfollowed==Tryz.prog.unfollowed 3)=true:=by kernel_rfl
theorem recordTakes_rec:(Rows.recordTakesRow.recurses==Tryz.prog.recurses 3)=true:=by kernel_rfl
theorem recordTakes_named:(Rows.recordTakesRow.named==Tryz.prog.varsNamed 3)=true:=by kernel_rfl
theorem recordTakes_closed:joinedFacts Tryz.prog 3 Tryz.f3 Rows.recordTakesSpec Rows.recordTakesRow=true:=by
 unfold joinedFacts
 rw [cl_laid,cl_rowed,recordTakes_inpl,recordTakes_unf,recordTakes_rec,recordTakes_named,cl_plain,cl_heard]
 kernel_rfl
theorem recordTakes_func:Tryz.prog.funcNamed Rows.recordTakesRow.func=some 3:=by kernel_rfl
theorem recordTakes_inst:Tryz.f3.isInstance Tryz.prog Rows.recordTakesRow.origin Rows.recordTakesRow.targs:=of_decide_eq_true (by kernel_rfl)
theorem recordTakes_wrap:Tryz.f3.isWrapper Tryz.prog Rows.recordTakesRow.wrapper Rows.recordTakesRow.mainSum:=by
 unfold Func.isWrapper;first|(rw [if_pos (by decide+kernel)];kernel_rfl)|(rw [if_neg (by decide+kernel)];exact ⟨rfl,rfl⟩)
theorem recordTakes_holds:Rows.RecordTakesSaid:=
 OpenClaim.holds_of_wide 3 Tryz.f3 rfl rfl rfl rfl rfl rfl rfl ⟨rfl,rfl,rfl,rfl,rfl⟩ rfl rfl rfl rfl rfl recordTakes_func Tryz.func3 recordTakes_closed
  recordTakes_inst recordTakes_wrap
  (fun os started H enc _=>recordTakes_lifted os started H enc)
#print axioms recordTakes_holds
end Go.Proofs.YtodbhliidbclcaaGreat
