/-
CellTells holds: for every input the call returns true, and each argument reads behind it as it did.
-/
import Derived.Test.YtmpnopjkpamhaaaCTells
import Derived.Test.YtmpnopjkpamhaaaOpenC
import Derived.Test.YtmpnopjkpamhaaaOpenG
namespace Go.Proofs.Ytmpnopjkpamhaaa
open Go.RowKit Go.ChangeShapes Go.WideShapes Go.ChangeAt

set_option maxRecDepth 100000 in
theorem cellTells_lifted (os : Os) (started : os.Started) (H : Type) (enc : TypeId × Value → H) :
    ReturnsInHanded {} Try.checked os 5 .any (Rows.cellTellsSpec.pre6 enc Try.prog Try.f5 Rows.cellTellsRow.domain false) (Rows.cellTellsSpec.post enc Try.prog Try.f5 false true false false) := by
  refine returnsInHanded_of_change (C := Try.checked) Try.ownG started (by kernel_rfl) Try.func5
    (ChangeSpec.witness6 (enc := enc) (C := Try.checked) false ⟨#[], #[.agg #[.int .u8 0, .int .u8 0, .int .i64 0, .int .u64 0, .int .u64 0, .string ByteArray.empty], .agg #[.int .u8 0, .int .u8 0, .int .i64 0, .int .u64 0, .int .u64 0, .string ByteArray.empty], .int .u8 0], []⟩ 8 (by kernel_rfl) (by kernel_rfl) (by kernel_rfl) (by kernel_rfl)) ?_
  intro W base args ds gs before hval0 hW hcnd _
  have hval : ∀ (j : Nat) t v, Try.f5.params[j]? = some t → args[j]? = some v → Value.okWide Try.prog W .any base t v := hval0
  have hW' := hW
  obtain ⟨p, q, hA0, hV, rfl, hfz, hnd⟩ := hW
  have hA : DataW.TrodAll enc Try.prog W 0 (fun _ => true) true Try.f5.params.toList args.toList ds p := hA0
  rw [Try.params5] at hA hval
  obtain ⟨v0, v1, v2, d0, d1, d2, p0, p1, p2, rfl, rfl, rfl, h0, h1, h2⟩ := trodAll_three hA
  obtain ⟨rfl, rfl⟩ := trodVars_none hV
  have b0 := hval 0 26 v0 rfl rfl
  have k0 := h0
  obtain ⟨kX, tyX, nX, xX, yX, sX, rfl, hkX, htX, hnX, hxX, hyX, hsX⟩ := openG_cell k0 b0
  have b1 := hval 1 26 v1 rfl rfl
  have k1 := h1
  obtain ⟨kY, tyY, nY, xY, yY, sY, rfl, hkY, htY, hnY, hxY, hyY, hsY⟩ := openG_cell k1 b1
  have b2 := hval 2 5 v2 rfl rfl
  have k2 := h2
  obtain ⟨kindZ, rfl, wkindZ⟩ := openG_int Try.underlying5 k2 b2
  have hkindZ := wfG_u8 wkindZ
  clear wkindZ
  refine (ctells_any kX tyX nX xX yX sX kY tyY nY xY yY sY kindZ W hkX.1 hsX hsY).mono fun e W' ⟨he, hE⟩ => ?_
  subst he
  exact ⟨_, rfl, post_law Try.laidOutG Try.underlying4 (by kernel_rfl) (by kernel_rfl) rfl hW' rfl rfl rfl hE⟩

theorem cellTells_holds : Rows.CellTellsSaid :=
  OpenClaim.holds_of_wide 5 Try.f5 rfl rfl rfl rfl rfl rfl rfl ⟨rfl, rfl, rfl, rfl, rfl⟩ rfl rfl rfl rfl rfl (by kernel_rfl) Try.func5 (by kernel_rfl)
    (of_decide_eq_true (by kernel_rfl)) (by unfold Func.isWrapper; first | (rw [if_pos (by decide +kernel)]; kernel_rfl) | (rw [if_neg (by decide +kernel)]; exact ⟨rfl, rfl⟩))
    (fun os started H enc _ => cellTells_lifted os started H enc)
#print axioms cellTells_holds

end Go.Proofs.Ytmpnopjkpamhaaa
