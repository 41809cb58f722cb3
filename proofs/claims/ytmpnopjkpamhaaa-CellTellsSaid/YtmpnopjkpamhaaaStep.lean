/-
Appending a text, and appending bytes, at a step of a region that draws its order.
-/
import Derived.Test.YtmpnopjkpamhaaaApp
import Derived.Test.YtmpnopjkpamhaaaRefPutB
namespace Go.Proofs.Ytmpnopjkpamhaaa
open Go.RowKit

set_option maxRecDepth 20000 in
/-- Appending a text to what a call owns, at a step of a region that draws its order. -/
theorem step_app_str {w : World} {ops : Array Oper} {o : Oper} {a : Act} {K : Act → World → Prop} {Q : Exit → Act → World → Prop} {E : Prop} (hgd : o.guard = none) (s x : Operand)
    (ho : o.op = .call { callee := .builtin .append, args := #[s, x], argTypes := #[29, 9] })
    (base : Nat) (v : Value) (l : List Int) (hs : a.eval s = v) (hown : OB w base v l) (u : ByteArray) (hx : a.eval x = .string u)
    (h63 : l.length + u.size ≤ 1000000000) (hbase : base ≤ w.heap.size)
    (h : ∀ v' w', OB w' base v' (l ++ strL u) → w.grownBy w' v.ownBlock → K (a.put o.dst v') w') :
    if Region.wanted o (yielded ops a.tmps) = true then Oper.wp Try.prog o a w K Q else E := by
  have hw : Region.wanted o (yielded ops a.tmps) = true := by simp [Region.wanted, hgd]
  rw [if_pos hw]
  obtain ⟨i0, hi, hz0, hz1, hz2⟩ := info_parts Try.infoU8
  obtain ⟨v', w', hr, h2, h3, h4⟩ := Go.Lib.run_append_own_string (P := Try.prog) w base 29 9 o.type 5 i0 Try.underlying29 Try.underlying9 hi hz0 hz1 hz2 v _ _ hown u (by unfold maxLen; omega) (by omega) hbase
  unfold Oper.wp execOp
  simp only [ho, resolve, invoke, builtin, Sem.run_bind, Sem.run_pure, Result.andThen_ok, List.map_toArray, List.map_cons, List.map_nil, hs, hx, hr]
  refine h v' w' ?_ h3
  rw [bs_str] at h2
  exact OB.push h2 (by rw [strL_len])

set_option maxRecDepth 20000 in
/-- Appending bytes to what a call owns, at a step of a region that draws its order. -/
theorem step_app_nb {w : World} {ops : Array Oper} {o : Oper} {a : Act} {K : Act → World → Prop} {Q : Exit → Act → World → Prop} {E : Prop} (hgd : o.guard = none) (s x : Operand)
    (ho : o.op = .call { callee := .builtin .append, args := #[s, x], argTypes := #[29, 29] })
    (base : Nat) (v : Value) (l : List Int) (hs : a.eval s = v) (hown : OB w base v l) (u : Value) (m : List Int) (hx : a.eval x = u) (hu : NB w u m)
    (h63 : l.length + m.length ≤ 1000000000) (hbase : base ≤ w.heap.size)
    (h : ∀ v' w', OB w' base v' (l ++ m) → w.grownBy w' v.ownBlock → K (a.put o.dst v') w') :
    if Region.wanted o (yielded ops a.tmps) = true then Oper.wp Try.prog o a w K Q else E := by
  have hw : Region.wanted o (yielded ops a.tmps) = true := by simp [Region.wanted, hgd]
  rw [if_pos hw]
  obtain ⟨i0, hi, hz0, hz1, hz2⟩ := info_parts Try.infoU8
  have key : ∃ v' w', (Builtin.append_ #[29, 29] o.type #[v, u]).run Try.prog w = .ok v' w' ∧ OB w' base v' (l ++ m) ∧ w.grownBy w' v.ownBlock := by
    rcases hu with ⟨rfl, rfl⟩ | ⟨ad, cap, rfl, hn⟩
    · exact ⟨v, w, run_append_owned_none (P := Try.prog) (w := w) base 29 o.type 5 i0 1 Try.underlying29 hi v _ _ hown, by rw [List.append_nil]; exact hown, ⟨rfl, rfl, rfl, Nat.le_refl _, fun _ _ _ => rfl⟩⟩
    · obtain ⟨v', w', hr, h2, h3, _⟩ := run_append_own (P := Try.prog) w base 29 o.type 5 i0 _ 1 1 Try.underlying29 hi hz0 hz1 hz2 rfl (by decide) v _ _ hown ad m.length cap (bs m) (by rw [bs_len, Nat.mul_one]) hn (bs_one m) (by unfold maxLen; omega) (by omega) hbase
      exact ⟨v', w', hr, OB.push h2 rfl, h3⟩
  obtain ⟨v', w', hr, h2, h3⟩ := key
  unfold Oper.wp execOp
  simp only [ho, resolve, invoke, builtin, Sem.run_bind, Sem.run_pure, Result.andThen_ok, List.map_toArray, List.map_cons, List.map_nil, hs, hx, hr]
  exact h v' w' h2 h3

set_option maxRecDepth 20000 in
/-- A text as bytes, at a step of a region that draws its order. -/
theorem step_conv_str {w : World} {ops : Array Oper} {o : Oper} {a : Act} {K : Act → World → Prop} {Q : Exit → Act → World → Prop} {E : Prop} (hgd : o.guard = none) (x : Operand)
    (ho : o.op = .convert 9 29 x) (u : ByteArray) (hx : a.eval x = .string u)
    (h : ∀ v' w', Ext w w' → (∀ w2, Ext w' w2 → NB w2 v' (strL u)) → K (a.put o.dst v') w') :
    if Region.wanted o (yielded ops a.tmps) = true then Oper.wp Try.prog o a w K Q else E := by
  have hw : Region.wanted o (yielded ops a.tmps) = true := by simp [Region.wanted, hgd]
  rw [if_pos hw]
  have hr := conv_str w u
  have hN : ∀ w2, Ext (Go.Lib.bytesWorld w 5 u) w2 → NB w2 (.slice (some ⟨w.heap.size, 0, none⟩) u.size (grownCap w u.size 0 5)) (strL u) := by
    intro w2 h2
    have h0 : NB (Go.Lib.bytesWorld w 5 u) (.slice (some ⟨w.heap.size, 0, none⟩) u.size (grownCap w u.size 0 5)) (strL u) := .inr ⟨_, _, by rw [strL_len], news_bytesWorld w 5 u⟩
    refine h0.ext ?_ h2
    intro ad len cap e hl
    simp only [Value.slice.injEq, Option.some.injEq] at e
    obtain ⟨rfl, rfl, rfl⟩ := e
    rw [Go.Lib.bytesWorld_size]; exact Nat.lt_succ_self _
  unfold Oper.wp execOp
  simp only [ho, Sem.run_bind, Sem.run_pure, Result.andThen_ok, hx, hr]
  exact h _ _ (ext_bytesWorld w _ u) hN

theorem nb_conv {w w2 : World} {u : ByteArray} (h : Ext (Go.Lib.bytesWorld w 5 u) w2) : NB w2 (.slice (some ⟨w.heap.size, 0, none⟩) u.size (grownCap w u.size 0 5)) (strL u) := by
  have h0 : NB (Go.Lib.bytesWorld w 5 u) (.slice (some ⟨w.heap.size, 0, none⟩) u.size (grownCap w u.size 0 5)) (strL u) := .inr ⟨_, _, by rw [strL_len], news_bytesWorld w 5 u⟩
  refine h0.ext ?_ h
  intro ad len cap e hl
  simp only [Value.slice.injEq, Option.some.injEq] at e
  obtain ⟨rfl, rfl, rfl⟩ := e
  rw [Go.Lib.bytesWorld_size]; exact Nat.lt_succ_self _
theorem Ext.conv {w w1 : World} (h : Ext w w1) (e : TypeId) (u : ByteArray) : Ext w (Go.Lib.bytesWorld w1 e u) := h.trans (ext_bytesWorld _ _ _)

end Go.Proofs.Ytmpnopjkpamhaaa
