/-
RecordEnds holds: for every input the call returns true, and each argument reads behind it as it did.
-/
import Derived.Test.YtibgippchdmdlaaGreatP15
namespace Go.Proofs.YtibgippchdmdlaaGreat
open Go.RowKit Go.ChangeShapes Go.WideShapes Go.ChangeAt

set_option maxRecDepth 100000 in
theorem recordEnds_lifted (os : Os) (started : os.Started) (H : Type) (enc : TypeId × Value → H) :
    ReturnsInHanded {} Tryz.checked os 5 .any (Rows.recordEndsSpec.pre6 enc Tryz.prog Tryz.f5 Rows.recordEndsRow.domain false) (Rows.recordEndsSpec.post enc Tryz.prog Tryz.f5 false true false false) := by
  refine returnsInHanded_of_change (C := Tryz.checked) Tryz.ownG started (by kernel_rfl) Tryz.func5
    (ChangeSpec.witness6 (enc := enc) (C := Tryz.checked) false ⟨#[], #[.int .u32 0, .int .u64 0, .slice none 0 0], []⟩ 8 (by kernel_rfl) (by kernel_rfl) (by kernel_rfl) (by kernel_rfl)) ?_
  intro W base args ds gs before hval0 hW hcnd _
  have hval : ∀ (j : Nat) t v, Tryz.f5.params[j]? = some t → args[j]? = some v → Value.okWide Tryz.prog W .any base t v := hval0
  have hW' := hW
  obtain ⟨p, q, hA0, hV, rfl, hfz, hnd⟩ := hW
  have hA : DataW.TrodAll enc Tryz.prog W 0 (fun _ => true) true Tryz.f5.params.toList args.toList ds p := hA0
  rw [Tryz.params5] at hA hval
  obtain ⟨v0, v1, v2, d0, d1, d2, p0, p1, p2, rfl, rfl, rfl, h0, h1, h2⟩ := trodAll_three hA
  obtain ⟨rfl, rfl⟩ := trodVars_none hV
  have b0 := hval 0 23 v0 rfl rfl
  have k0 := h0
  obtain ⟨X, rfl, wX⟩ := openG_int Tryz.underlying23 k0 b0
  have hX := wfG_u32 wX
  clear wX
  have b1 := hval 1 32 v1 rfl rfl
  have k1 := h1
  obtain ⟨Y, rfl, wY⟩ := openG_int Tryz.underlying32 k1 b1
  have hY := wfG_u64 wY
  clear wY
  have b2 := hval 2 40 v2 rfl rfl
  have k2 := h2
  obtain ⟨lB, hlB, hlenB, hbB⟩ := openG_AB k2 b2
  refine ((recordends_int X Y v2 lB W hX hY hlB hlenB hbB)).mono fun e W' ⟨he, hE⟩ => ?_
  subst he
  exact ⟨_, rfl, post_law Tryz.laidOutG Tryz.underlying4 (by kernel_rfl) (by kernel_rfl) rfl hW' rfl rfl rfl hE⟩

theorem recordEnds_holds : Rows.RecordEndsSaid :=
  OpenClaim.holds_of_wide 5 Tryz.f5 rfl rfl rfl rfl rfl rfl rfl ⟨rfl, rfl, rfl, rfl, rfl⟩ rfl rfl rfl rfl rfl (by kernel_rfl) Tryz.func5 (by kernel_rfl)
    (of_decide_eq_true (by kernel_rfl)) (by unfold Func.isWrapper; first | (rw [if_pos (by decide +kernel)]; kernel_rfl) | (rw [if_neg (by decide +kernel)]; exact ⟨rfl, rfl⟩))
    (fun os started H enc _ => recordEnds_lifted os started H enc)
#print axioms recordEnds_holds

end Go.Proofs.YtibgippchdmdlaaGreat
