/-
Rows of bytes that a call owns; bytes.Clone; appending one byte.
-/
import Derived.Test.YtmpnopjkpamhaaaOwn
import Derived.Test.YtmpnopjkpamhaaaRow
import Derived.Laws.BytesArg
import Derived.Lib.AppendStr
namespace Go.Proofs.Ytmpnopjkpamhaaa
open Go.RowKit

theorem run_equalIn_slice_nil' {P : Program} (w : World) (d : Nat) (t e : TypeId) (a : Option Addr) (l c : Nat) (h : P.underlying t = some (.slice e)) : (Op.equalIn (d + 1) t (.slice a l c) (.slice none 0 0)).run P w = .ok a.isNone w := by
  cases a <;> simp [Op.equalIn, run_underlying h]
@[go_sem] theorem run_eql_slice_nil' {P : Program} (w : World) (t e : TypeId) (a : Option Addr) (l c : Nat) (h : P.underlying t = some (.slice e)) : (binOp .eql t (.slice a l c) (.slice none 0 0)).run P w = .ok (.bool a.isNone) w := by
  have e : (Op.equal t (.slice a l c) (.slice none 0 0)).run P w = .ok a.isNone w := by
    exact run_equalIn_slice_nil' w 9999 t e a l c h
  simp [binOp, e]

theorem Try.infoU8 : (Try.prog.info? 5).map (fun i => (i.zero, i.size, i.bytes)) = some (some (.int .u8 0), 1, 1) := by kernel_rfl

/-- The cells of bytes. -/
def bs (l : List Int) : List Value := l.map (Value.int .u8)
def bcell (x : Int) : List Value := [.int .u8 x]
theorem bs_len (l : List Int) : (bs l).length = l.length := by simp [bs]
theorem bs_flat (l : List Int) : (l.map bcell).flatten = bs l := by
  induction l with
  | nil => rfl
  | cons x l ih => simp [bs, bcell] at *; exact ih
theorem bs_append (l m : List Int) : bs (l ++ m) = bs l ++ bs m := by simp [bs]
theorem bs_str (s : ByteArray) : Go.Lib.strCells s = bs (s.data.toList.map fun b => (b.toNat : Int)) := by simp [bs, Go.Lib.strCells, Function.comp_def]

/-- The slice v, above base, owns these bytes. -/
def OB (w : World) (base : Nat) (v : Value) (l : List Int) : Prop := w.ownsRow base 5 1 v l.length (bs l)
theorem OB.ext {w w1 : World} {base : Nat} {v : Value} {l : List Int} (h : OB w base v l) (he : Ext w w1) : OB w1 base v l := owns_ext h he
theorem OB.alloc {w : World} {base : Nat} {v : Value} {l : List Int} (h : OB w base v l) (o : Obj) : OB (w.alloc o) base v l := h.ext ((Ext.refl w).alloc o)
theorem OB.drew {w : World} {base : Nat} {v : Value} {l : List Int} (h : OB w base v l) : OB w.drew base v l := h.ext ((Ext.refl w).drew)
theorem OB.base {w : World} {base b : Nat} {v : Value} {l : List Int} (h : OB w b v l) (hb : base ≤ b) : OB w base v l := by
  obtain ⟨h1, h2⟩ := h
  refine ⟨h1, ?_⟩
  rcases h2 with h2 | ⟨g, cap, cur, hv, hg, hr⟩
  · exact .inl h2
  · exact .inr ⟨g, cap, cur, hv, Nat.le_trans hb hg, hr⟩
theorem OB.nil (w : World) (base : Nat) : OB w base (.slice none 0 0) [] := World.ownsRow_nil _ _ _ _
theorem OB.sl {w : World} {base : Nat} {v : Value} {l : List Int} (h : OB w base v l) : Sl w v 1 (l.map bcell) :=
  Sl.of_owns (by rw [List.length_map, bs_flat]; exact h) (by intro xs hxs; simp at hxs; obtain ⟨x, _, rfl⟩ := hxs; rfl)
theorem OB.shape {w : World} {base : Nat} {v : Value} {l : List Int} (h : OB w base v l) : ∃ a cap, v = .slice a l.length cap := by
  rcases h.2 with ⟨rfl, h0⟩ | ⟨g, cap, cur, hv, _⟩
  · exact ⟨none, 0, by rw [h0]⟩
  · exact ⟨_, cap, hv⟩

theorem Sl.bytes {w : World} {b o len cap : Nat} {l : List Int} (h : Sl w (.slice (some ⟨b, o, none⟩) len cap) 1 (l.map bcell)) (hl : 0 < len) : b < w.heap.size ∧ len = l.length ∧ ∀ i, i < len → w.cell? ⟨b, o + i, none⟩ = some (.int .u8 (l.getD i 0)) := by
  obtain ⟨a, cap', hv, hs⟩ := h
  simp only [Value.slice.injEq, List.length_map] at hv
  obtain ⟨rfl, rfl, rfl⟩ := hv
  rcases hs with h0 | ⟨b', o', ha, hb, hc⟩
  · simp at h0; subst h0; simp at hl
  · simp only [Option.some.injEq, Addr.mk.injEq] at ha
    obtain ⟨rfl, rfl, -⟩ := ha
    refine ⟨hb, rfl, fun i hi => ?_⟩
    have := hc i (by simpa using hi) 0 (by omega)
    rw [Nat.mul_one, Nat.add_zero] at this
    rw [this]
    simp [bcell, List.getD, List.getElem?_map, List.getElem?_eq_getElem hi]

/-- Cells of any part, as append reads them. -/
theorem bytes_news {w : World} {b o : Nat} {l : List Int} (h : ∀ i, i < l.length → w.cell? ⟨b, o + i, none⟩ = some (.int .u8 (l.getD i 0))) : ∀ j u, (bs l)[j]? = some u → w.cell? ((⟨b, o, none⟩ : Addr).add j) = some u := by
  intro j u hj
  have hjl : j < l.length := by
    rcases Nat.lt_or_ge j l.length with h | h
    · exact h
    · simp [bs, List.getElem?_eq_none h] at hj
  have hplain : (⟨b, o, none⟩ : Addr).add j = ⟨b, o + j, none⟩ := by unfold Addr.add; split <;> simp_all
  rw [hplain, h j hjl]
  simp [bs, List.getElem?_map, List.getElem?_eq_getElem hjl] at hj
  subst hj
  simp [List.getD, List.getElem?_eq_getElem hjl]
theorem bs_one (l : List Int) : ∀ u ∈ bs l, u.oneCell' = true := by
  intro u hu; simp [bs] at hu; obtain ⟨x, _, rfl⟩ := hu; rfl

set_option maxRecDepth 20000 in set_option maxHeartbeats 400000 in
theorem clone_any (v : Value) (l : List Int) (w : World) (hl : Sl w v 1 (l.map bcell)) (hlen : l.length ≤ 1000000) :
    Calls Try.prog 26 #[v] w fun e w' => ∃ v', e = .returned v' ∧ OB w' w.heap.size v' l ∧ Ext w w' := by
  obtain ⟨i0, hi, hz0, hz1, hz2⟩ := info_parts Try.infoU8
  have hl0 := hl
  obtain ⟨a, cap, rfl, hs⟩ := hl
  have HS := Hid.mk' hs
  clear hs
  cases a with
  | none =>
    have h0 : l.length = 0 := by
      rcases HS.out with h | ⟨b, o, ha, _⟩
      · simpa using h
      · cases ha
    have hn : l = [] := List.length_eq_zero_iff.1 h0
    subst hn
    clear hl0 HS
    go_enter Try.func26, Try.ntmps26
    go_wp2
    go_ret
    exact ⟨_, rfl, OB.nil _ _, by (repeat (with_reducible (first | exact Ext.refl _ | assumption | exact held_left (by assumption) | apply Ext.drewN | apply Ext.drew | apply Ext.alloc | (refine Ext.setCell ?_ (by first | (simp; done) | (simp; omega) | omega) _) | (refine Ext.trans ?_ (by assumption)) | (refine Ext.trans ?_ (held_left (by assumption))))))⟩
  | some ad =>
    have hnews : ∀ j u, (bs l)[j]? = some u → (w.alloc (.cells #[] 5)).cell? (ad.add j) = some u := by
      rcases HS.out with h | ⟨b, o, ha, hb, hc⟩
      · have h0 : l = [] := by simpa using h
        subst h0; intro j u hj; simp [bs] at hj
      · cases ha
        refine bytes_news fun i hi => ?_
        have hE : Ext w (w.alloc (.cells #[] 5)) := (Ext.refl w).alloc _
        rw [hE.cells.1 b _ hb]
        exact (Sl.bytes hl0 (by simp; omega)).2.2 i (by simpa using hi)
    have HN := Hid.mk' hnews
    clear hl0 HS hnews
    simp only [List.length_map]
    go_enter Try.func26, Try.ntmps26
    go_wp2_with (at_builtin; refine wpList_append_own _ rfl _ _ 29 rfl w.heap.size 5 i0 _ 1 1 Try.underlying29 hi hz0 hz1 hz2 rfl (by decide) (.slice (some ⟨w.heap.size, 0, none⟩) 0 0) 0 [] rfl ?c0 _ l.length _ (bs l) rfl (by rw [bs_len, Nat.mul_one]) HN.out (bs_one l) ?c3 ?c4 ?c5 ?_)
    case c0 => exact ⟨rfl, .inr ⟨_, 0, #[], rfl, Nat.le_refl _, Blk.new w #[] _, Nat.le_refl _, Nat.zero_le _, rfl, rfl⟩⟩
    case c3 => unfold maxLen; omega
    case c4 => omega
    case c5 => simp
    intro v' w2 hown hgrow _
    have hown : OB w2 w.heap.size v' l := by simpa [OB] using hown
    have hE2 : Ext w w2 := ((Ext.refl w).alloc (.cells #[] 5)).grown (v := .slice (some ⟨w.heap.size, 0, none⟩) 0 0) (e := 5) (size := 1) (n := 0) (xs := []) ⟨rfl, .inr ⟨_, 0, #[], rfl, Nat.le_refl _, Blk.new w #[] _, Nat.le_refl _, Nat.zero_le _, rfl, rfl⟩⟩ hgrow
    have HO := Hid.mk' hown
    have HE2 := Hid.mk' hE2
    clear hown hE2 hgrow
    go_wp2
    go_ret
    exact ⟨_, rfl, HO.out, HE2.out⟩

end Go.Proofs.Ytmpnopjkpamhaaa
