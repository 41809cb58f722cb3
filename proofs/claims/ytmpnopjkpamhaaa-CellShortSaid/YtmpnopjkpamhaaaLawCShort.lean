/-
CellShort holds: for every input the call returns true, and each argument reads behind it as it did.
-/
import Derived.Test.YtmpnopjkpamhaaaCShort
import Derived.Test.YtmpnopjkpamhaaaOpenC
import Derived.Test.YtmpnopjkpamhaaaOpenG
namespace Go.Proofs.Ytmpnopjkpamhaaa
open Go.RowKit Go.ChangeShapes Go.WideShapes Go.ChangeAt

set_option maxRecDepth 100000 in
theorem cellShort_lifted (os : Os) (started : os.Started) (H : Type) (enc : TypeId × Value → H) :
    ReturnsInHanded {} Try.checked os 4 .any (Rows.cellShortSpec.pre6 enc Try.prog Try.f4 Rows.cellShortRow.domain false) (Rows.cellShortSpec.post enc Try.prog Try.f4 false true false false) := by
  refine returnsInHanded_of_change (C := Try.checked) Try.ownG started (by kernel_rfl) Try.func4
    (ChangeSpec.witness6 (enc := enc) (C := Try.checked) false ⟨#[], #[.agg #[.int .u8 0, .int .u8 0, .int .i64 0, .int .u64 0, .int .u64 0, .string ByteArray.empty], .int .u8 0], []⟩ 8 (by kernel_rfl) (by kernel_rfl) (by kernel_rfl) (by kernel_rfl)) ?_
  intro W base args ds gs before hval0 hW hcnd _
  have hval : ∀ (j : Nat) t v, Try.f4.params[j]? = some t → args[j]? = some v → Value.okWide Try.prog W .any base t v := hval0
  have hW' := hW
  obtain ⟨p, q, hA0, hV, rfl, hfz, hnd⟩ := hW
  have hA : DataW.TrodAll enc Try.prog W 0 (fun _ => true) true Try.f4.params.toList args.toList ds p := hA0
  rw [Try.params4] at hA hval
  obtain ⟨v0, v1, d0, d1, p0, p1, rfl, rfl, rfl, h0, h1⟩ := trodAll_two hA
  obtain ⟨rfl, rfl⟩ := trodVars_none hV
  have b0 := hval 0 26 v0 rfl rfl
  have k0 := h0
  obtain ⟨kC, tyC, nC, xC, yC, sC, rfl, hkC, htC, hnC, hxC, hyC, hsC⟩ := openG_cell k0 b0
  have b1 := hval 1 5 v1 rfl rfl
  have k1 := h1
  obtain ⟨kind, rfl, wkind⟩ := openG_int Try.underlying5 k1 b1
  have hkind := wfG_u8 wkind
  clear wkind
  refine (cshort_any kC tyC nC xC yC sC kind W hkC.1 hnC hxC hyC hsC).mono fun e W' ⟨he, hE⟩ => ?_
  subst he
  exact ⟨_, rfl, post_law Try.laidOutG Try.underlying4 (by kernel_rfl) (by kernel_rfl) rfl hW' rfl rfl rfl hE⟩

theorem cellShort_holds : Rows.CellShortSaid :=
  OpenClaim.holds_of_wide 4 Try.f4 rfl rfl rfl rfl rfl rfl rfl ⟨rfl, rfl, rfl, rfl, rfl⟩ rfl rfl rfl rfl rfl (by kernel_rfl) Try.func4 (by kernel_rfl)
    (of_decide_eq_true (by kernel_rfl)) (by unfold Func.isWrapper; first | (rw [if_pos (by decide +kernel)]; kernel_rfl) | (rw [if_neg (by decide +kernel)]; exact ⟨rfl, rfl⟩))
    (fun os started H enc _ => cellShort_lifted os started H enc)
#print axioms cellShort_holds

end Go.Proofs.Ytmpnopjkpamhaaa
