/-
RecordVersions holds: for every input the call returns true, and each argument reads behind it as it did.
-/
import Derived.Test.YtjnafppkbhldlaaGreatP26
import Derived.Test.YtjnafppkbhldlaaGreatRVers
namespace Go.Proofs.YtjnafppkbhldlaaGreat
open Go.RowKit Go.ChangeShapes Go.WideShapes Go.ChangeAt

set_option maxRecDepth 100000 in
theorem recordVersions_lifted (os : Os) (started : os.Started) (H : Type) (enc : TypeId × Value → H) :
    ReturnsInHanded {} Tryz.checked os 7 .any (Rows.recordVersionsSpec.pre6 enc Tryz.prog Tryz.f7 Rows.recordVersionsRow.domain false) (Rows.recordVersionsSpec.post enc Tryz.prog Tryz.f7 false true false false) := by
  refine returnsInHanded_of_change_sized (C := Tryz.checked) Tryz.ownG started (by kernel_rfl) Tryz.func7
    (ChangeSpec.witness6 (enc := enc) (C := Tryz.checked) false ⟨#[], #[.slice none 0 0, .agg #[.int .u8 0, .int .u32 0, .int .u32 0, .int .u8 0, .slice none 0 0, .slice none 0 0, .slice none 0 0, .int .u8 0], .int .u16 0], []⟩ 8 (by kernel_rfl) (by kernel_rfl) (by kernel_rfl) (by kernel_rfl)) ?_
  intro W base args ds gs before hval0 hW hcnd hsz _
  have hval : ∀ (j : Nat) t v, Tryz.f7.params[j]? = some t → args[j]? = some v → Value.okWide Tryz.prog W .any base t v := hval0
  have hW' := hW
  obtain ⟨p, q, hA0, hV, rfl, hfz, hnd⟩ := hW
  have hA : DataW.TrodAll enc Tryz.prog W 0 (fun _ => true) true Tryz.f7.params.toList args.toList ds p := hA0
  rw [Tryz.params7] at hA hval hsz
  obtain ⟨v0, v1, v2, d0, d1, d2, p0, p1, p2, rfl, rfl, rfl, h0, h1, h2⟩ := trodAll_three hA
  obtain ⟨rfl, rfl⟩ := trodVars_none hV
  have b0 := hval 0 22 v0 rfl rfl
  have k0 := h0
  have t0 : ∀ q ∈ d0.weights Tryz.prog 22, q ≤ reachBytes := fun q hq => of_decide_eq_true (List.all_eq_true.1 hsz q (DataW.weights_mem_each (j := 0) (t := 22) (d := d0) rfl rfl q hq))
  obtain ⟨lC, aC, capC, rfl, hlC, hlenC, hbC⟩ := openG_rels k0 b0 t0
  have b1 := hval 1 111 v1 rfl rfl
  have k1 := h1
  have t1 : ∀ q ∈ d1.weights Tryz.prog 111, q ≤ reachBytes := fun q hq => of_decide_eq_true (List.all_eq_true.1 hsz q (DataW.weights_mem_each (j := 1) (t := 111) (d := d1) rfl rfl q hq))
  obtain ⟨X, rfl, hX, zX, tX⟩ := openG_ev13w k1 b1
  have b2 := hval 2 112 v2 rfl rfl
  have k2 := h2
  have t2 : ∀ q ∈ d2.weights Tryz.prog 112, q ≤ reachBytes := fun q hq => of_decide_eq_true (List.all_eq_true.1 hsz q (DataW.weights_mem_each (j := 2) (t := 112) (d := d2) rfl rfl q hq))
  obtain ⟨V, rfl, wV⟩ := openG_int Tryz.underlying112 k2 b2
  have hV := wfG_u16 wV
  clear wV
  refine (recvers_law lC aC capC X V W hlC hbC hlenC hX zX tX hV).mono fun e W' ⟨he, hE⟩ => ?_
  subst he
  exact ⟨_, rfl, post_law Tryz.laidOutG Tryz.underlying4 (by kernel_rfl) (by kernel_rfl) rfl hW' rfl rfl rfl hE⟩

theorem recordVersions_inpl : (Rows.recordVersionsRow.inPlace == Tryz.prog.inPlace 7) = true := by kernel_rfl
theorem recordVersions_unf : (Rows.recordVersionsRow.unfollowed == Tryz.prog.unfollowed 7) = true := by kernel_rfl
theorem recordVersions_rec : (Rows.recordVersionsRow.recurses == Tryz.prog.recurses 7) = true := by kernel_rfl
theorem recordVersions_named : (Rows.recordVersionsRow.named == Tryz.prog.varsNamed 7) = true := by kernel_rfl
theorem recordVersions_closed : joinedFacts Tryz.prog 7 Tryz.f7 Rows.recordVersionsSpec Rows.recordVersionsRow = true := by
  unfold joinedFacts
  rw [cl_laid, cl_rowed, recordVersions_inpl, recordVersions_unf, recordVersions_rec, recordVersions_named, cl_plain, cl_heard]
  kernel_rfl
theorem recordVersions_func : Tryz.prog.funcNamed Rows.recordVersionsRow.func = some 7 := by kernel_rfl
theorem recordVersions_inst : Tryz.f7.isInstance Tryz.prog Rows.recordVersionsRow.origin Rows.recordVersionsRow.targs := of_decide_eq_true (by kernel_rfl)
theorem recordVersions_wrap : Tryz.f7.isWrapper Tryz.prog Rows.recordVersionsRow.wrapper Rows.recordVersionsRow.mainSum := by
  unfold Func.isWrapper; first | (rw [if_pos (by decide +kernel)]; kernel_rfl) | (rw [if_neg (by decide +kernel)]; exact ⟨rfl, rfl⟩)
theorem recordVersions_holds : Rows.RecordVersionsSaid :=
  OpenClaim.holds_of_wide 7 Tryz.f7 rfl rfl rfl rfl rfl rfl rfl ⟨rfl, rfl, rfl, rfl, rfl⟩ rfl rfl rfl rfl rfl recordVersions_func Tryz.func7 recordVersions_closed
    recordVersions_inst recordVersions_wrap
    (fun os started H enc _ => recordVersions_lifted os started H enc)
#print axioms recordVersions_holds

end Go.Proofs.YtjnafppkbhldlaaGreat
