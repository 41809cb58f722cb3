/-
Arguments of the common types, opened: numbers, strings, slices of anything.
-/
import Derived.Test.YthdjinicmnhgpaaDoorOpen
import Derived.Carry
namespace Go.Proofs.YthdjinicmnhgpaaDoor
open Go.RowKit Go.ChangeShapes Go.WideShapes Go.ChangeAt

theorem Tryd.ownG : ownKnob Tryd.prog.godebug = none := by kernel_rfl
theorem Tryd.laidOutG : laidOutB Tryd.prog = true := by kernel_rfl

theorem wfG_u8 {n : Int} (h : (Lit.int .u8 n).wf = true) : 0 ≤ n ∧ n < 256 := by
  simp [Lit.wf, IntKind.min, IntKind.max, IntKind.signed, IntKind.bits] at h; omega
theorem wfG_u16 {n : Int} (h : (Lit.int .u16 n).wf = true) : 0 ≤ n ∧ n < 65536 := by
  simp [Lit.wf, IntKind.min, IntKind.max, IntKind.signed, IntKind.bits] at h; omega
theorem wfG_u32 {n : Int} (h : (Lit.int .u32 n).wf = true) : 0 ≤ n ∧ n < 4294967296 := by
  simp [Lit.wf, IntKind.min, IntKind.max, IntKind.signed, IntKind.bits] at h; omega
theorem wfG_u64 {n : Int} (h : (Lit.int .u64 n).wf = true) : 0 ≤ n ∧ n < 18446744073709551616 := by
  simp [Lit.wf, IntKind.min, IntKind.max, IntKind.signed, IntKind.bits] at h; omega
theorem wfG_i64 {n : Int} (h : (Lit.int .i64 n).wf = true) : -9223372036854775808 ≤ n ∧ n < 9223372036854775808 := by
  simp [Lit.wf, IntKind.min, IntKind.max, IntKind.signed, IntKind.bits] at h; omega

section
variable {H : Type} {enc : TypeId × Value → H} {w : World} {base : Nat} {spare : Nat → Bool} {held : Bool} {r : Reach} {base2 : Nat} {v : Value} {d : DataW H} {ps : List MemPlace}

theorem openG_int {P : Program} {t : TypeId} {k : IntKind} (ht : P.underlying t = some (.int k)) (h : DataW.Trod enc P w base spare held t v d ps) (hv : Value.okWide P w r base2 t v) : ∃ n, v = .int k n ∧ (Lit.int k n).wf = true := by
  obtain ⟨m, rfl⟩ := okWide_int ht hv
  obtain ⟨n, hn⟩ := h
  have hl : Lf enc P w base spare held t (.int k m) := ⟨n, _, hn⟩
  obtain ⟨q, hq, hw⟩ := hl.int ht
  cases hq
  exact ⟨m, rfl, hw⟩
theorem openG_string {P : Program} {t : TypeId} (ht : P.underlying t = some .string) (h : DataW.Trod enc P w base spare held t v d ps) (hv : Value.okWide P w r base2 t v) : ∃ s : ByteArray, v = .string s ∧ s.size ≤ 9223372036854775807 := by
  obtain ⟨m, rfl⟩ := okWide_string ht hv
  obtain ⟨n, hn⟩ := h
  have hl : Lf enc P w base spare held t (.string m) := ⟨n, _, hn⟩
  obtain ⟨q, hq, hw⟩ := hl.string ht
  cases hq
  exact ⟨m, rfl, hw⟩
/-- A slice of anything, opened by its element. -/
theorem openG_slice {α : Type} {f : α → List Value} {p : α → Prop} {P : Program} {T E : TypeId} {k : Nat} (ht : P.underlying T = some (.slice E)) (hk : P.cellsOf E = k) (hk0 : 0 < k)
    (ho : ∀ n xs x, DataW.trod enc P w base spare held n E xs = some x → ∃ a, xs = f a ∧ p a)
    (h : DataW.Trod enc P w base spare held T v d ps) (hv : Value.okWide P w r base2 T v) : ∃ l : List α, Sl w v k (l.map f) ∧ l.length ≤ 9223372036854775807 ∧ ∀ a ∈ l, p a := by
  obtain ⟨a, len, cap, rfl⟩ := okWide_slice ht hv
  obtain ⟨n, hn⟩ := h
  obtain ⟨v', xss, hcs, hsl, hlen, hx⟩ := trod_sl ht hk hk0 hn
  have e : v' = .slice a len cap := by simpa [Value.cells] using hcs.symm
  obtain ⟨l, rfl, hl⟩ := exists_map (f := f) (p := p) xss (fun xs hxs => by
    obtain ⟨_, n, x, h⟩ := hx xs hxs
    exact ho n xs x h)
  rw [e] at hsl
  exact ⟨l, hsl, by simpa using hlen, hl⟩
/-- A nil slice of the arguments is the nil one. -/
theorem openG_nil {P : Program} {T E : TypeId} (ht : P.underlying T = some (.slice E)) (h : DataW.Trod enc P w base spare held T v d ps) (hv : Value.okWide P w r base2 T v) : ∀ len cap, v = .slice none len cap → v = .slice none 0 0 := by
  obtain ⟨a, len, cap, rfl⟩ := okWide_slice ht hv
  obtain ⟨n, hn⟩ := h
  intro l c he
  rcases Go.Deep.open_slice ht hn with ⟨e, _⟩ | ⟨a', len', cap', m, q, D, Pl, e, _⟩
  · simpa [Value.cells] using e
  · simp [Value.cells] at e; obtain ⟨rfl, _⟩ := e; simp at he
end

end Go.Proofs.YthdjinicmnhgpaaDoor
