/-
CellBack holds: for every input the call returns true, and each argument reads behind it as it did.
-/
import Derived.Test.YtmpnopjkpamhaaaCBack
import Derived.Test.YtmpnopjkpamhaaaOpenP
import Derived.Test.YtmpnopjkpamhaaaOpenC
namespace Go.Proofs.Ytmpnopjkpamhaaa
open Go.RowKit Go.ChangeShapes Go.WideShapes Go.ChangeAt

set_option maxRecDepth 100000 in
theorem cellBack_lifted (os : Os) (started : os.Started) (H : Type) (enc : TypeId × Value → H) :
    ReturnsInHanded {} Try.checked os 7 .any (Rows.cellBackSpec.pre6 enc Try.prog Try.f7 Rows.cellBackRow.domain false) (Rows.cellBackSpec.post enc Try.prog Try.f7 false true false false) := by
  refine returnsInHanded_of_change (C := Try.checked) Try.ownG started (by kernel_rfl) Try.func7
    (ChangeSpec.witness6 (enc := enc) (C := Try.checked) false ⟨#[], #[.agg #[.int .u8 0, .int .u8 0, .int .i64 0, .int .u64 0, .int .u64 0, .string ByteArray.empty], .agg #[.int .u8 0, .int .u8 0], .slice none 0 0], []⟩ 8 (by kernel_rfl) (by kernel_rfl) (by kernel_rfl) (by kernel_rfl)) ?_
  intro W base args ds gs before hval0 hW hcnd _
  have hval : ∀ (j : Nat) t v, Try.f7.params[j]? = some t → args[j]? = some v → Value.okWide Try.prog W .any base t v := hval0
  have hW' := hW
  obtain ⟨p, q, hA0, hV, rfl, hfz, hnd⟩ := hW
  have hA : DataW.TrodAll enc Try.prog W 0 (fun _ => true) true Try.f7.params.toList args.toList ds p := hA0
  rw [Try.params7] at hA hval
  obtain ⟨v0, v1, v2, d0, d1, d2, p0, p1, p2, rfl, rfl, rfl, h0, h1, h2⟩ := trodAll_three hA
  obtain ⟨rfl, rfl⟩ := trodVars_none hV
  have b0 := hval 0 26 v0 rfl rfl
  have k0 := h0
  obtain ⟨kC, tyC, nC, xC, yC, sC, rfl, hkC, htC, hnC, hxC, hyC, hsC⟩ := openG_cell k0 b0
  have b1 := hval 1 28 v1 rfl rfl
  have k1 := h1
  obtain ⟨kdP, vrP, rfl, hkdP, hvrP⟩ := openG_place k1 b1
  have b2 := hval 2 29 v2 rfl rfl
  have k2 := h2
  obtain ⟨lb, hslb, hlenb, hbb⟩ := openG_bytes k2 b2
  refine ((cbk_any kC tyC nC xC yC sC kdP vrP v2 lb W hslb hbb hlenb hkC.1 hnC hxC hyC hsC hkdP.1 hkdP.2 hvrP.1 hvrP.2)).mono fun e W' ⟨he, hE⟩ => ?_
  subst he
  exact ⟨_, rfl, post_law Try.laidOutG Try.underlying4 (by kernel_rfl) (by kernel_rfl) rfl hW' rfl rfl rfl hE⟩

theorem cellBack_holds : Rows.CellBackSaid :=
  OpenClaim.holds_of_wide 7 Try.f7 rfl rfl rfl rfl rfl rfl rfl ⟨rfl, rfl, rfl, rfl, rfl⟩ rfl rfl rfl rfl rfl (by kernel_rfl) Try.func7 (by kernel_rfl)
    (of_decide_eq_true (by kernel_rfl)) (by unfold Func.isWrapper; first | (rw [if_pos (by decide +kernel)]; kernel_rfl) | (rw [if_neg (by decide +kernel)]; exact ⟨rfl, rfl⟩))
    (fun os started H enc _ => cellBack_lifted os started H enc)
#print axioms cellBack_holds

end Go.Proofs.Ytmpnopjkpamhaaa
