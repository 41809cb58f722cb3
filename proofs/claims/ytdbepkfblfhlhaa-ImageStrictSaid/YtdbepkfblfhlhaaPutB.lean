import Derived.Test.YtdbepkfblfhlhaaPutR
import Derived.Laws.AppendOwnNone
import Derived.Test.YtdbepkfblfhlhaaRefPutC
import Derived.Test.YtdbepkfblfhlhaaPut
import Derived.Test.YtdbepkfblfhlhaaVal
import Derived.Test.YtdbepkfblfhlhaaTakeV
/-
Appending bytes of any source to what a call owns.
-/
namespace Go.Proofs.Ytdbepkfblfhlhaa
open Go.RowKit

/-- Bytes that append can read. -/
def NB (w : World) (u : Value) (m : List Int) : Prop := (u = .slice none 0 0 ∧ m = []) ∨ ∃ ad cap, u = .slice (some ad) m.length cap ∧ ∀ j z, (bs m)[j]? = some z → w.cell? (ad.add j) = some z
theorem NB.nil (w : World) : NB w (.slice none 0 0) [] := .inl ⟨rfl, rfl⟩
theorem NB.of_sl {w : World} {v : Value} {m : List Int} (h : Sl w v 1 (m.map bcell)) (hn : ∀ len cap, v = .slice none len cap → v = .slice none 0 0) : NB w v m := by
  have h0 := h
  obtain ⟨a, cap, rfl, hs⟩ := h
  cases a with
  | none =>
    refine .inl ⟨hn _ _ rfl, ?_⟩
    rcases hs with hs | ⟨b, o, ha, _⟩
    · simpa using hs
    · cases ha
  | some ad =>
    refine .inr ⟨ad, cap, by simp, ?_⟩
    rcases hs with hs | ⟨b, o, ha, hb, hc⟩
    · have : m = [] := by simpa using hs
      subst this; intro j z hj; simp [bs] at hj
    · cases ha
      exact bytes_news fun i hi => (Sl.bytes h0 (by simp; omega)).2.2 i (by simpa using hi)
theorem NB.of_own {w : World} {base : Nat} {v : Value} {m : List Int} (h : OB w base v m) : NB w v m := by
  rcases h.2 with ⟨rfl, h0⟩ | ⟨g, cap, cur, rfl, _⟩
  · exact .inl ⟨rfl, List.length_eq_zero_iff.1 h0⟩
  · exact .inr ⟨_, cap, rfl, World.ownsRow.cells h rfl⟩
theorem NB.ext {w w1 : World} {v : Value} {m : List Int} (h : NB w v m) (hsz : ∀ ad len cap, v = .slice (some ad) len cap → 0 < len → ad.block < w.heap.size) (he : Ext w w1) : NB w1 v m := by
  rcases h with h | ⟨ad, cap, rfl, h⟩
  · exact .inl h
  · refine .inr ⟨ad, cap, rfl, fun j z hj => ?_⟩
    have hl : 0 < m.length := by
      rcases Nat.eq_zero_or_pos m.length with h0 | h0
      · have : m = [] := List.length_eq_zero_iff.1 h0
        subst this; simp [bs] at hj
      · exact h0
    have hb := hsz ad _ cap rfl hl
    rw [← h j z hj]
    exact Below.cell he (by unfold Addr.add; split <;> exact hb)

set_option maxRecDepth 20000 in
theorem app_bytes {w : World} {ops : Array Oper} {rest : List Oper} {o : Oper} {a : Act} {Q : Exit → Act → World → Prop} (hgd : o.guard = none) (s x : Operand)
    (ho : o.op = .call { callee := .builtin .append, args := #[s, x], argTypes := #[80, 80] })
    (base : Nat) (v : Value) (l : List Int) (hs : a.eval s = v) (hown : OB w base v l) (u : Value) (m : List Int) (hx : a.eval x = u) (hu : NB w u m)
    (h63 : l.length + m.length ≤ 1000000000) (hbase : base ≤ w.heap.size)
    (h : ∀ v' w', OB w' base v' (l ++ m) → w.grownBy w' v.ownBlock → wpList Try.prog ops Q rest (a.put o.dst v') w') : wpList Try.prog ops Q (o :: rest) a w := by
  obtain ⟨i0, hi, hz0, hz1, hz2⟩ := info_parts Try.infoU8
  rcases hu with ⟨rfl, rfl⟩ | ⟨ad, cap, rfl, hn⟩
  · refine Go.wpList_append_own_none hgd s x 80 ho base 5 i0 1 Try.underlying80 hi v _ _ hs hown hx ?_
    exact h v w (by rw [List.append_nil]; exact hown) ⟨rfl, rfl, rfl, Nat.le_refl _, fun _ _ _ => rfl⟩
  · exact wpList_append_own w hgd s x 80 ho base 5 i0 _ 1 1 Try.underlying80 hi hz0 hz1 hz2 rfl (by decide) v _ _ hs hown ad m.length cap (bs m) hx (by rw [bs_len, Nat.mul_one]) hn (bs_one m) (by unfold maxLen; omega) (by omega) hbase
      (fun v' w' h1 h2 _ => h v' w' (OB.push h1 rfl) h2)

end Go.Proofs.Ytdbepkfblfhlhaa

/-
Put of a value, the program's and the reference's: where it is right, and where it is wrong.
-/
namespace Go.Proofs.Ytdbepkfblfhlhaa
open Go.RowKit

theorem err_zero {ty n x y : Int} {s : ByteArray} {ver : Int} (h : errV ty n x y s ver = 0) : (ver = 1 ∨ ver = 2) ∧ rightV ty n x y s = 0 := by
  unfold errV at h
  by_cases hv : ver = 1 ∨ ver = 2
  · rw [if_pos hv] at h; exact ⟨hv, h⟩
  · rw [if_neg hv] at h; cases h
theorem putL_len {ty n : Int} {x y : Nat} {s : ByteArray} {ver : Int} (h : errV ty n x y s ver = 0) (hn : -9223372036854775808 ≤ n ∧ n < 9223372036854775808) : (putL ty n x y s ver).length ≤ 3000 := by
  obtain ⟨hv, hr⟩ := err_zero h
  have hs := (right_zero hr).2.2.1
  have fx := floatL_len (x := x) (ver := ver)
  have fy := floatL_len (x := y) (ver := ver)
  have fx2 := floatL_len (x := x) (ver := 2)
  have fy2 := floatL_len (x := y) (ver := 2)
  have h1 := sevens_len10 (zig_lt n hn)
  have h2 := sevens_len10 (x := s.size) (by omega)
  have h3 := strL_len s
  unfold putL complexL
  (repeat' split) <;> (try simp only [List.length_append, List.length_cons, List.length_nil, wordL_len]) <;> omega

theorem vput_ok (v : Value) (l : List Int) (ty n : Int) (x y : Nat) (s : ByteArray) (ver : Int) (w : World) (h : errV ty n x y s ver = 0) (hl : Sl w v 1 (l.map bcell)) (hlen : l.length ≤ 800000) (hn : -9223372036854775808 ≤ n ∧ n < 9223372036854775808) (hx : x < 2 ^ 64) (hy : y < 2 ^ 64) (hs : s.size ≤ 9223372036854775807) :
    Calls Try.prog 113 #[v, .agg #[.int .u8 ty, .int .i64 n, .complex .f64 x y, .string s], .int .u8 ver] w fun e w' => ∃ v', e = .returned (.tuple #[v', .int .i64 0]) ∧ OB w' w.heap.size v' (l ++ putL ty n x y s ver) ∧ Ext w w' := by
  refine (vput_any v l ty n x y s ver w hl hlen hn hx hy hs).mono ?_
  rintro e w' ⟨v', rfl, h1, h2, h3⟩
  exact ⟨v', by rw [h], h1 h, h3⟩
theorem vput_bad (v : Value) (l : List Int) (ty n : Int) (x y : Nat) (s : ByteArray) (ver : Int) (w : World) (h : errV ty n x y s ver ≠ 0) (hl : Sl w v 1 (l.map bcell)) (hlen : l.length ≤ 800000) (hn : -9223372036854775808 ≤ n ∧ n < 9223372036854775808) (hx : x < 2 ^ 64) (hy : y < 2 ^ 64) (hs : s.size ≤ 9223372036854775807) :
    Calls Try.prog 113 #[v, .agg #[.int .u8 ty, .int .i64 n, .complex .f64 x y, .string s], .int .u8 ver] w fun e w' => e = .returned (.tuple #[.slice none 0 0, .int .i64 (errV ty n x y s ver)]) ∧ Ext w w' := by
  refine (vput_any v l ty n x y s ver w hl hlen hn hx hy hs).mono ?_
  rintro e w' ⟨v', rfl, h1, h2, h3⟩
  exact ⟨by rw [h2 h], h3⟩
theorem rput_ok (ty n : Int) (x y : Nat) (s : ByteArray) (ver : Int) (w : World) (h : errV ty n x y s ver = 0) (hn : -9223372036854775808 ≤ n ∧ n < 9223372036854775808) (hx : x < 2 ^ 64) (hy : y < 2 ^ 64) (hs : s.size ≤ 9223372036854775807) :
    Calls Try.prog 116 #[.agg #[.int .u8 ty, .int .i64 n, .int .u64 x, .int .u64 y, .string s], .int .u8 ver] w fun e w' => ∃ v', e = .returned (.tuple #[v', .int .i64 0]) ∧ OB w' w.heap.size v' (putL ty n x y s ver) ∧ Ext w w' := by
  refine (rput_any ty n x y s ver w hn hx hy hs).mono ?_
  rintro e w' ⟨v', rfl, h1, h2, h3⟩
  exact ⟨v', by rw [h], h1 h, h3⟩
theorem rput_bad (ty n : Int) (x y : Nat) (s : ByteArray) (ver : Int) (w : World) (h : errV ty n x y s ver ≠ 0) (hn : -9223372036854775808 ≤ n ∧ n < 9223372036854775808) (hx : x < 2 ^ 64) (hy : y < 2 ^ 64) (hs : s.size ≤ 9223372036854775807) :
    Calls Try.prog 116 #[.agg #[.int .u8 ty, .int .i64 n, .int .u64 x, .int .u64 y, .string s], .int .u8 ver] w fun e w' => e = .returned (.tuple #[.slice none 0 0, .int .i64 (errV ty n x y s ver)]) ∧ Ext w w' := by
  refine (rput_any ty n x y s ver w hn hx hy hs).mono ?_
  rintro e w' ⟨v', rfl, h1, h2, h3⟩
  exact ⟨by rw [h2 h], h3⟩

end Go.Proofs.Ytdbepkfblfhlhaa

/-
Bytes as strings.
-/
namespace Go.Proofs.Ytdbepkfblfhlhaa
open Go.RowKit

/-- A row of bytes as a string. -/
theorem conv_Sl {w : World} {v : Value} {l : List Int} (h : Sl w v 1 (l.map bcell)) : (convert 80 9 v).run Try.prog w = .ok (.string (strOfNums l)) w := by
  have h0 := h
  obtain ⟨a, cap, rfl, hs⟩ := h
  rcases hs with hn | ⟨b, o, rfl, hb, hc⟩
  · have hl : l = [] := by simpa using hn
    subst hl
    cases a with
    | none => exact run_convert_bytes_nil w _ _ Try.underlying80 Try.underlying5 _ _ _ Try.underlying9
    | some ad =>
      rw [run_convert_bytes_string w _ _ _ _ _ _ Try.underlying80 Try.underlying5 Try.underlying9]
      have hl : (loadCells ad 0).run Try.prog w = .ok (([] : List Int).map (Value.int .u8)).toArray w := by
        have := run_loadCells_list (P := Try.prog) w ad [] (fun j v hj => by simp at hj)
        simpa using this
      exact run_bytesToString w ad 0 cap [] hl
  · simp only [List.length_map] at *
    refine run_convert_bytes_arg w _ _ Try.underlying80 Try.underlying5 b o _ cap l rfl (fun i hi => ?_) _ Try.underlying9
    exact (Sl.bytes h0 (by omega)).2.2 i hi

theorem fresh_bytes (w : World) (l : List Int) (n : Nat) (hn : n = l.length) : Sl (w.alloc (.cells (bs l).toArray 5)) (.slice (some ⟨w.heap.size, 0, none⟩) n n) 1 (l.map bcell) := by
  subst hn
  have := Sl.new w (bs l).toArray 5 1 l.length l.length (l.map bcell) (by rw [bs_flat]) (by intro xs hxs; simp at hxs; obtain ⟨x, _, rfl⟩ := hxs; rfl) (by simp)
  exact this

theorem nilSl (w : World) : Sl w (.slice none 0 0) 1 (([] : List Int).map bcell) := ⟨none, 0, rfl, .inl rfl⟩
theorem empty_small : ByteArray.empty.size ≤ 9223372036854775807 := Nat.zero_le _

end Go.Proofs.Ytdbepkfblfhlhaa

/-
Equality of two values of the document.
-/
namespace Go.Proofs.Ytdbepkfblfhlhaa
open Go.RowKit

theorem toList_inj2 {s t : ByteArray} (h : s.toList = t.toList) : s = t := by
  have := str_beq s t
  rw [h, beq_self_eq_true] at this
  exact of_decide_eq_true this.symm
set_option maxRecDepth 20000 in
theorem eq_val2 (ty n : Int) (x y : Nat) (s : ByteArray) (w : World) :
    (binOp .eql 59 (.agg #[.int .u8 ty, .int .i64 n, .int .u64 x, .int .u64 y, .string s]) (.agg #[.int .u8 ty, .int .i64 n, .int .u64 x, .int .u64 y, .string s])).run Try.prog w = .ok (.bool true) w := by
  simp [go_sem]

theorem toList_inj' {s t : ByteArray} (h : s.toList = t.toList) : s = t := by
  have := str_beq s t
  rw [h, beq_self_eq_true] at this
  exact of_decide_eq_true this.symm
set_option maxRecDepth 20000 in
theorem eq_val (ty n : Int) (x y : Nat) (s : ByteArray) (ty' n' : Int) (x' y' : Nat) (s' : ByteArray) (w : World) :
    (binOp .eql 59 (.agg #[.int .u8 ty, .int .i64 n, .int .u64 x, .int .u64 y, .string s]) (.agg #[.int .u8 ty', .int .i64 n', .int .u64 x', .int .u64 y', .string s'])).run Try.prog w = .ok (.bool (sameB ty n x y s ty' n' x' y' s')) w := by
  by_cases h1 : ty = ty' <;> by_cases h2 : n = n' <;> by_cases h3 : x = x' <;> by_cases h4 : y = y' <;> by_cases h5 : s = s' <;> simp [go_sem, sameB, h1, h2, h3, h4, h5]
  all_goals first
    | (intro h; exact absurd (toList_inj' h) h5)
    | omega
    | (intros; omega)
    | (intros; intro h; exact absurd (toList_inj' h) h5)


end Go.Proofs.Ytdbepkfblfhlhaa

/-
What is put are bytes; two values of one type are the same just if their bytes are.
-/
namespace Go.Proofs.Ytdbepkfblfhlhaa
open Go.RowKit

theorem isB_sevens : ∀ (k x : Nat), x ≤ k → isB (sevens x) := by
  intro k
  induction k using Nat.strongRecOn with
  | _ k ih =>
    intro x hx b hb
    by_cases h : x < 128
    · rw [sevens_lt h] at hb; simp at hb; omega
    · rw [sevens_ge h] at hb
      rcases List.mem_cons.1 hb with rfl | hb
      · omega
      · exact ih (x / 128) (by omega) _ (Nat.le_refl _) b hb
theorem isB_float (x : Nat) (ver : Int) : isB (floatL x ver) := by
  unfold floatL; split
  · exact isB_word _
  · exact isB_sevens _ _ (Nat.le_refl _)
theorem isB_mark (x y : Nat) : isB [markOf x y] := by
  intro b hb
  simp only [List.mem_singleton] at hb
  subst hb; unfold markOf; split <;> split <;> omega
theorem isB_if {p : Prop} [Decidable p] {l : List Int} (h : isB l) : isB (if p then [] else l) := by split; exact isB.nil; exact h
theorem isB_complex (x y : Nat) (ver : Int) : isB (complexL x y ver) := by
  by_cases h : ver = 2
  · unfold complexL; rw [if_pos h]
    exact isB.append (isB.append (isB_mark _ _) (isB_if (isB_float _ _))) (isB_if (isB_float _ _))
  · unfold complexL; rw [if_neg h]
    exact isB.append (isB_float _ _) (isB_float _ _)
theorem isB_putL {ty n : Int} {x y : Nat} {s : ByteArray} {ver : Int} (h : rightV ty n x y s = 0) : isB (putL ty n x y s ver) := by
  have hz := right_zero h
  unfold putL
  (repeat' split)
  · intro b hb
    simp only [List.mem_singleton] at hb
    subst hb
    rcases hz.2.2.2.1 (by assumption) with h1 | h1 <;> omega
  · exact isB_word _
  · exact isB_sevens _ _ (Nat.le_refl _)
  · exact isB_float _ _
  · exact isB_complex _ _ _
  · exact isB.append (isB_sevens _ _ (Nat.le_refl _)) (isB_strL _)
theorem strOf_inj {l m : List Int} (hl : isB l) (hm : isB m) (h : strOfNums l = strOfNums m) : l = m := by
  rw [← strL_strOf hl, ← strL_strOf hm, h]
theorem str_cmp {l m : List Int} (hl : isB l) (hm : isB m) : ((strOfNums l).toList == (strOfNums m).toList) = decide (l = m) := by
  rw [str_beq]
  exact decide_eq_decide.2 ⟨strOf_inj hl hm, fun h => by rw [h]⟩

theorem put_same {ty na nb : Int} {xa ya xb yb : Nat} {sa sb : ByteArray} {ver : Int} (hv : ver = 1 ∨ ver = 2) (ha : rightV ty na xa ya sa = 0) (hb : rightV ty nb xb yb sb = 0)
    (hna : -9223372036854775808 ≤ na ∧ na < 9223372036854775808) (hxa : xa < 2 ^ 64) (hya : ya < 2 ^ 64) (hnb : -9223372036854775808 ≤ nb ∧ nb < 9223372036854775808) (hxb : xb < 2 ^ 64) (hyb : yb < 2 ^ 64) :
    decide (putL ty na xa ya sa ver = putL ty nb xb yb sb ver) = sameB ty na xa ya sa ty nb xb yb sb := by
  unfold sameB
  refine decide_eq_decide.2 ⟨fun h => ?_, ?_⟩
  · have := put_inj (a := ⟨ty, na, xa, ya, sa⟩) (b := ⟨ty, nb, xb, yb, sb⟩) hv ha hb ⟨hna, hxa, hya⟩ ⟨hnb, hxb, hyb⟩ rfl h
    simp only [V.mk.injEq] at this
    exact ⟨rfl, this.2⟩
  · rintro ⟨-, rfl, rfl, rfl, rfl⟩; rfl

end Go.Proofs.Ytdbepkfblfhlhaa
