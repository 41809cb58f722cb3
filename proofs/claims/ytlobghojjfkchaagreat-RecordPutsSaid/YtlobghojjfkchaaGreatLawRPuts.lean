/-
RecordPuts holds: for every input the call returns true, and each argument reads behind it as it did.
-/
import Derived.Test.YtlobghojjfkchaaGreatP20
import Derived.Test.YtlobghojjfkchaaGreatRPuts
namespace Go.Proofs.YtlobghojjfkchaaGreat
open Go.RowKit Go.ChangeShapes Go.WideShapes Go.ChangeAt

set_option maxRecDepth 100000 in
theorem recordPuts_lifted (os : Os) (started : os.Started) (H : Type) (enc : TypeId × Value → H) :
    ReturnsInHanded {} Tryz.checked os 3 .any (Rows.recordPutsSpec.pre6 enc Tryz.prog Tryz.f3 Rows.recordPutsRow.domain false) (Rows.recordPutsSpec.post enc Tryz.prog Tryz.f3 false true false false) := by
  refine returnsInHanded_of_change_sized (C := Tryz.checked) Tryz.ownG started (by kernel_rfl) Tryz.func3
    (ChangeSpec.witness6 (enc := enc) (C := Tryz.checked) false ⟨#[], #[.slice none 0 0, .agg #[.int .u8 0, .int .u32 0, .int .u32 0, .int .u8 0, .slice none 0 0, .slice none 0 0, .slice none 0 0, .int .u8 0], .int .u8 0], []⟩ 8 (by kernel_rfl) (by kernel_rfl) (by kernel_rfl) (by kernel_rfl)) ?_
  intro W base args ds gs before hval0 hW hcnd hsz _
  have hval : ∀ (j : Nat) t v, Tryz.f3.params[j]? = some t → args[j]? = some v → Value.okWide Tryz.prog W .any base t v := hval0
  have hW' := hW
  obtain ⟨p, q, hA0, hV, rfl, hfz, hnd⟩ := hW
  have hA : DataW.TrodAll enc Tryz.prog W 0 (fun _ => true) true Tryz.f3.params.toList args.toList ds p := hA0
  rw [Tryz.params3] at hA hval hsz
  obtain ⟨v0, v1, v2, d0, d1, d2, p0, p1, p2, rfl, rfl, rfl, h0, h1, h2⟩ := trodAll_three hA
  obtain ⟨rfl, rfl⟩ := trodVars_none hV
  have b0 := hval 0 22 v0 rfl rfl
  have k0 := h0
  have t0 : ∀ q ∈ d0.weights Tryz.prog 22, q ≤ reachBytes := fun q hq => of_decide_eq_true (List.all_eq_true.1 hsz q (DataW.weights_mem_each (j := 0) (t := 22) (d := d0) rfl rfl q hq))
  obtain ⟨lC, aC, capC, rfl, hlC, hlenC, hbC⟩ := openG_rels k0 b0 t0
  have b1 := hval 1 29 v1 rfl rfl
  have k1 := h1
  have t1 : ∀ q ∈ d1.weights Tryz.prog 29, q ≤ reachBytes := fun q hq => of_decide_eq_true (List.all_eq_true.1 hsz q (DataW.weights_mem_each (j := 1) (t := 29) (d := d1) rfl rfl q hq))
  obtain ⟨X, rfl, hX, zX, tX⟩ := openG_ev13w k1 b1
  have b2 := hval 2 5 v2 rfl rfl
  have k2 := h2
  have t2 : ∀ q ∈ d2.weights Tryz.prog 5, q ≤ reachBytes := fun q hq => of_decide_eq_true (List.all_eq_true.1 hsz q (DataW.weights_mem_each (j := 2) (t := 5) (d := d2) rfl rfl q hq))
  obtain ⟨V, rfl, wV⟩ := openG_int Tryz.underlying5 k2 b2
  have hV := wfG_u8 wV
  clear wV
  refine (recputs_law lC aC capC X V W hlC hbC hlenC hX zX tX hV.1).mono fun e W' ⟨he, hE⟩ => ?_
  subst he
  exact ⟨_, rfl, post_law Tryz.laidOutG Tryz.underlying4 (by kernel_rfl) (by kernel_rfl) rfl hW' rfl rfl rfl hE⟩

theorem recordPuts_holds : Rows.RecordPutsSaid :=
  OpenClaim.holds_of_wide 3 Tryz.f3 rfl rfl rfl rfl rfl rfl rfl ⟨rfl, rfl, rfl, rfl, rfl⟩ rfl rfl rfl rfl rfl (by kernel_rfl) Tryz.func3 (by kernel_rfl)
    (of_decide_eq_true (by kernel_rfl)) (by unfold Func.isWrapper; first | (rw [if_pos (by decide +kernel)]; kernel_rfl) | (rw [if_neg (by decide +kernel)]; exact ⟨rfl, rfl⟩))
    (fun os started H enc _ => recordPuts_lifted os started H enc)
#print axioms recordPuts_holds

end Go.Proofs.YtlobghojjfkchaaGreat
