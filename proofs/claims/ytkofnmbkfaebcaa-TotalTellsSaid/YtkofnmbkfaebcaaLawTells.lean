/-
TotalTells holds: for every input the call returns true, and each argument reads behind it as it did.
-/
import Derived.Test.YtkofnmbkfaebcaaTells
import Derived.Test.YtkofnmbkfaebcaaOpen
namespace Go.Proofs.Ytkofnmbkfaebcaa
open Go.RowKit Go.ChangeShapes Go.WideShapes Go.ChangeAt

theorem Try.own : ownKnob Try.prog.godebug = none := by kernel_rfl
theorem Try.laidOut : laidOutB Try.prog = true := by kernel_rfl
theorem Try.flatR : flat Try.prog 4 51 = some [5, 5, 2, 40, 40, 9] := by kernel_rfl
theorem Try.cellsR : Try.prog.cellsOf 51 = 6 := by kernel_rfl

theorem wf_u8 {n : Int} (h : (Lit.int .u8 n).wf = true) : 0 ≤ n ∧ n ≤ 255 := by
  simp [Lit.wf, IntKind.min, IntKind.max, IntKind.signed, IntKind.bits] at h; omega
theorem wf_u64 {n : Int} (h : (Lit.int .u64 n).wf = true) : 0 ≤ n ∧ n < 2 ^ 64 := by
  simp [Lit.wf, IntKind.min, IntKind.max, IntKind.signed, IntKind.bits] at h; omega
theorem wf_i64 {n : Int} (h : (Lit.int .i64 n).wf = true) : wrap64 n = n := by
  simp [Lit.wf, IntKind.min, IntKind.max, IntKind.signed, IntKind.bits] at h; unfold wrap64; omega

section
variable {H : Type} {enc : TypeId × Value → H} {w : World} {base : Nat} {spare : Nat → Bool} {held : Bool}
/-- A cell of the document, opened. -/
theorem open_R {n : Nat} {cs : List Value} {x : DataW H × List MemPlace} (h : DataW.trod enc Try.prog w base spare held n 51 cs = some x) : ∃ r : R, cs = r.cells ∧ r.tw := by
  have hl := flat_open 4 _ _ n cs x Try.flatR h
  match cs, hl with
  | [c0, c1, c2, c3, c4, c5], ⟨l0, l1, l2, l3, l4, l5, _⟩ =>
    obtain ⟨k, rfl, h0⟩ := l0.int Try.underlying5
    obtain ⟨ty, rfl, h1⟩ := l1.int Try.underlying5
    obtain ⟨m, rfl, h2⟩ := l2.int Try.underlying2
    obtain ⟨a, rfl, h3⟩ := l3.int Try.underlying40
    obtain ⟨b, rfl, h4⟩ := l4.int Try.underlying40
    obtain ⟨s, rfl, h5⟩ := l5.string Try.underlying9
    exact ⟨⟨k, ty, m, a, b, s⟩, rfl, (wf_u8 h0).1, wf_u64 h3, wf_u64 h4, wf_i64 h2, h5⟩

/-- A list of cells of the document, opened. -/
theorem open_Rs {v : Value} {d : DataW H} {ps : List MemPlace} (h : DataW.Trod enc Try.prog w base spare held 49 v d ps) (hv : ∃ a len cap, v = .slice a len cap) : ∃ l : List R, Sl w v 6 (l.map R.cells) ∧ l.length ≤ 9223372036854775807 ∧ ∀ r ∈ l, r.tw := by
  obtain ⟨n, hn⟩ := h
  obtain ⟨a, len, cap, rfl⟩ := hv
  obtain ⟨v', xss, hcs, hsl, hlen, hx⟩ := trod_sl Try.underlying49 Try.cellsR (by decide) hn
  have e : v' = .slice a len cap := by simpa [Value.cells] using hcs.symm
  obtain ⟨l, rfl, hl⟩ := exists_map (f := R.cells) (p := R.tw) xss (fun xs hxs => by
    obtain ⟨_, n, x, h⟩ := hx xs hxs
    exact open_R h)
  rw [e] at hsl
  exact ⟨l, hsl, by simpa using hlen, hl⟩
end

set_option maxRecDepth 100000 in
theorem totalTells_lifted (os : Os) (started : os.Started) (H : Type) (enc : TypeId × Value → H) :
    ReturnsInHanded {} Try.checked os 5 .any (Rows.totalTellsSpec.pre6 enc Try.prog Try.f5 Rows.totalTellsRow.domain false) (Rows.totalTellsSpec.post enc Try.prog Try.f5 false true false false) := by
  refine returnsInHanded_of_change (C := Try.checked) Try.own started (by kernel_rfl) Try.func5
    (ChangeSpec.witness6 (enc := enc) (C := Try.checked) false ⟨#[], #[.slice none 0 0, .agg #[.int .u8 0, .int .u8 0, .int .i64 0, .int .u64 0, .int .u64 0, .string ByteArray.empty]], []⟩ 8 (by kernel_rfl) (by kernel_rfl) (by kernel_rfl) (by kernel_rfl)) ?_
  intro W base args ds gs before hval0 hW hcnd _
  have hval : ∀ (j : Nat) t v, Try.f5.params[j]? = some t → args[j]? = some v → Value.okWide Try.prog W .any base t v := hval0
  have hW' := hW
  obtain ⟨p, q, hA0, hV, rfl, hfz, hnd⟩ := hW
  have hA : DataW.TrodAll enc Try.prog W 0 (fun _ => true) true Try.f5.params.toList args.toList ds p := hA0
  rw [Try.params5] at hA hval
  obtain ⟨v0, v1, d0, d1, p0, p1, rfl, rfl, rfl, h0, h1⟩ := trodAll_two hA
  obtain ⟨rfl, rfl⟩ := trodVars_none hV
  obtain ⟨l, hl, hlen, hwf⟩ := open_Rs h0 (okWide_slice Try.underlying49 (hval 0 49 v0 rfl rfl))
  obtain ⟨cs, rfl, hsz⟩ := okWide_struct Try.underlying51 (hval 1 51 v1 rfl rfl)
  obtain ⟨n1, hn1⟩ := h1
  obtain ⟨r, hr, htw⟩ := open_R hn1
  obtain ⟨k, ty, n, x, y, s⟩ := r
  obtain ⟨x, rfl⟩ := Int.eq_ofNat_of_zero_le htw.x.1
  obtain ⟨y, rfl⟩ := Int.eq_ofNat_of_zero_le htw.y.1
  have ecs : cs = #[.int .u8 k, .int .u8 ty, .int .i64 n, .int .u64 x, .int .u64 y, .string s] := Array.toList_inj.1 hr
  subst ecs
  refine (tells_any l v0 k ty n x y s W hl hlen hwf htw).mono fun e W' ⟨he, hE⟩ => ?_
  subst he
  exact ⟨_, rfl, post_law Try.laidOut Try.underlying4 (by kernel_rfl) (by kernel_rfl) rfl hW' rfl rfl rfl hE⟩

theorem totalTells_holds : Rows.TotalTellsSaid :=
  OpenClaim.holds_of_wide 5 Try.f5 rfl rfl rfl rfl rfl rfl rfl ⟨rfl, rfl, rfl, rfl, rfl⟩ rfl rfl rfl rfl rfl (by kernel_rfl) Try.func5 (by kernel_rfl)
    (of_decide_eq_true (by kernel_rfl)) (by unfold Func.isWrapper; first | (rw [if_pos (by decide +kernel)]; kernel_rfl) | (rw [if_neg (by decide +kernel)]; exact ⟨rfl, rfl⟩))
    (fun os started H enc _ => totalTells_lifted os started H enc)
#print axioms totalTells_holds

end Go.Proofs.Ytkofnmbkfaebcaa
