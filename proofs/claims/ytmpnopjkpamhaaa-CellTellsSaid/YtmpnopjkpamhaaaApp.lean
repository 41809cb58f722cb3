/-
Appending bytes of any source to what a call owns.
-/
import Derived.Test.YtmpnopjkpamhaaaPutQ
import Derived.Laws.AppendOwnNone
namespace Go.Proofs.Ytmpnopjkpamhaaa
open Go.RowKit

/-- Bytes that append can read. -/
def NB (w : World) (u : Value) (m : List Int) : Prop := (u = .slice none 0 0 ∧ m = []) ∨ ∃ ad cap, u = .slice (some ad) m.length cap ∧ ∀ j z, (bs m)[j]? = some z → w.cell? (ad.add j) = some z
theorem NB.nil (w : World) : NB w (.slice none 0 0) [] := .inl ⟨rfl, rfl⟩
theorem NB.of_sl {w : World} {v : Value} {m : List Int} (h : Sl w v 1 (m.map bcell)) (hn : ∀ len cap, v = .slice none len cap → v = .slice none 0 0) : NB w v m := by
  have h0 := h
  obtain ⟨a, cap, rfl, hs⟩ := h
  cases a with
  | none =>
    refine .inl ⟨hn _ _ rfl, ?_⟩
    rcases hs with hs | ⟨b, o, ha, _⟩
    · simpa using hs
    · cases ha
  | some ad =>
    refine .inr ⟨ad, cap, by simp, ?_⟩
    rcases hs with hs | ⟨b, o, ha, hb, hc⟩
    · have : m = [] := by simpa using hs
      subst this; intro j z hj; simp [bs] at hj
    · cases ha
      exact bytes_news fun i hi => (Sl.bytes h0 (by simp; omega)).2.2 i (by simpa using hi)
theorem NB.of_own {w : World} {base : Nat} {v : Value} {m : List Int} (h : OB w base v m) : NB w v m := by
  rcases h.2 with ⟨rfl, h0⟩ | ⟨g, cap, cur, rfl, _⟩
  · exact .inl ⟨rfl, List.length_eq_zero_iff.1 h0⟩
  · exact .inr ⟨_, cap, rfl, World.ownsRow.cells h rfl⟩
theorem NB.ext {w w1 : World} {v : Value} {m : List Int} (h : NB w v m) (hsz : ∀ ad len cap, v = .slice (some ad) len cap → 0 < len → ad.block < w.heap.size) (he : Ext w w1) : NB w1 v m := by
  rcases h with h | ⟨ad, cap, rfl, h⟩
  · exact .inl h
  · refine .inr ⟨ad, cap, rfl, fun j z hj => ?_⟩
    have hl : 0 < m.length := by
      rcases Nat.eq_zero_or_pos m.length with h0 | h0
      · have : m = [] := List.length_eq_zero_iff.1 h0
        subst this; simp [bs] at hj
      · exact h0
    have hb := hsz ad _ cap rfl hl
    rw [← h j z hj]
    exact Below.cell he (by unfold Addr.add; split <;> exact hb)

set_option maxRecDepth 20000 in
theorem app_bytes {w : World} {ops : Array Oper} {rest : List Oper} {o : Oper} {a : Act} {Q : Exit → Act → World → Prop} (hgd : o.guard = none) (s x : Operand)
    (ho : o.op = .call { callee := .builtin .append, args := #[s, x], argTypes := #[29, 29] })
    (base : Nat) (v : Value) (l : List Int) (hs : a.eval s = v) (hown : OB w base v l) (u : Value) (m : List Int) (hx : a.eval x = u) (hu : NB w u m)
    (h63 : l.length + m.length ≤ 1000000000) (hbase : base ≤ w.heap.size)
    (h : ∀ v' w', OB w' base v' (l ++ m) → w.grownBy w' v.ownBlock → wpList Try.prog ops Q rest (a.put o.dst v') w') : wpList Try.prog ops Q (o :: rest) a w := by
  obtain ⟨i0, hi, hz0, hz1, hz2⟩ := info_parts Try.infoU8
  rcases hu with ⟨rfl, rfl⟩ | ⟨ad, cap, rfl, hn⟩
  · refine Go.wpList_append_own_none hgd s x 29 ho base 5 i0 1 Try.underlying29 hi v _ _ hs hown hx ?_
    exact h v w (by rw [List.append_nil]; exact hown) ⟨rfl, rfl, rfl, Nat.le_refl _, fun _ _ _ => rfl⟩
  · exact wpList_append_own w hgd s x 29 ho base 5 i0 _ 1 1 Try.underlying29 hi hz0 hz1 hz2 rfl (by decide) v _ _ hs hown ad m.length cap (bs m) hx (by rw [bs_len, Nat.mul_one]) hn (bs_one m) (by unfold maxLen; omega) (by omega) hbase
      (fun v' w' h1 h2 _ => h v' w' (OB.push h1 rfl) h2)

end Go.Proofs.Ytmpnopjkpamhaaa
