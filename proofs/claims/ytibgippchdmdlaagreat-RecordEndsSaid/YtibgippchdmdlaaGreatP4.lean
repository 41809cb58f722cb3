/-
Readers, in plain words: runs of sevens; from no other bytes; cut anywhere too short.
-/
import Derived.Deep.CutBlock
import Derived.IntWalk
import Derived.Test.YtibgippchdmdlaaGreatP3
namespace Go.Proofs.YtibgippchdmdlaaGreat
open Go.RowKit

/-- The number of sevens, the least first. -/
def valL : List Int → Nat
  | [] => 0
  | x :: l => (x % 128).toNat + 128 * valL l
theorem valL_snoc : ∀ (l : List Int) (x : Int), valL (l ++ [x]) = valL l + (x % 128).toNat * 128 ^ l.length := by
  intro l
  induction l with
  | nil => intro x; simp [valL]
  | cons y l ih => intro x; rw [List.cons_append, valL, ih, valL, List.length_cons, Nat.pow_succ, Nat.mul_add, ← Nat.mul_assoc, Nat.mul_comm 128 ((x % 128).toNat), Nat.mul_assoc, Nat.mul_comm 128 (128 ^ l.length)]; omega
theorem valL_lt : ∀ (l : List Int), valL l < 128 ^ l.length := by
  intro l
  induction l with
  | nil => simp [valL]
  | cons x l ih => rw [valL, List.length_cons, Nat.pow_succ]; have : (x % 128).toNat < 128 := by omega
                   omega
/-- A run of bytes that say there is more. -/
theorem digs_run : ∀ (n : Nat) (l : List Int) (k v : Nat), k + n ≤ 9 → n ≤ l.length → (∀ i, i < n → 128 ≤ l.getD i 0) → digs l k v = digs (l.drop n) (k + n) (v + valL (l.take n) * 128 ^ k) := by
  intro n
  induction n with
  | zero => intro l k v _ _ _; simp [valL]
  | succ n ih =>
    intro l k v hk hn h
    cases l with
    | nil => simp at hn
    | cons x l =>
      have hx : 128 ≤ x := by simpa using h 0 (by omega)
      rw [digs, if_neg (by omega), if_pos hx, ih l (k + 1) _ (by omega) (by simpa using hn) (fun i hi => by simpa using h (i + 1) (by omega))]
      rw [List.drop_succ_cons, List.take_succ_cons, valL, Nat.add_mul, show k + 1 + n = k + (n + 1) by omega]
      congr 1
      rw [Nat.pow_succ, Nat.mul_comm (128 ^ k) 128, Nat.mul_right_comm, Nat.add_assoc, Nat.mul_comm (128 * 128 ^ k)]
theorem digs_ten (l : List Int) (h : 10 ≤ l.length) (hb : ∀ i, i < 10 → 128 ≤ l.getD i 0) : digs l 0 0 = (0, 0, 5) := by
  rw [digs_run 9 l 0 0 (by omega) (by omega) (fun i hi => hb i (by omega))]
  have e : l.drop 9 = l.getD 9 0 :: l.drop 10 := by
    rw [List.drop_eq_getElem_cons (by omega)]; simp [List.getD, List.getElem?_eq_getElem (show 9 < l.length by omega)]
  have := hb 9 (by omega)
  rw [e, digs, if_pos ⟨by omega, by omega⟩]
theorem digs_short (l : List Int) (n : Nat) (hn : n = l.length) (h9 : n ≤ 9) (hb : ∀ i, i < n → 128 ≤ l.getD i 0) : digs l 0 0 = (0, 0, 1) := by
  rw [digs_run n l 0 0 (by omega) (by omega) hb, hn, List.drop_length]; rfl
theorem digs_at (l : List Int) (n : Nat) (hn : n < l.length) (h9 : n ≤ 9) (hb : ∀ i, i < n → 128 ≤ l.getD i 0) (hx : l.getD n 0 < 128) :
    digs l 0 0 = if n = 9 ∧ 1 < l.getD n 0 then (0, 0, 5) else if 1 ≤ n ∧ l.getD n 0 = 0 then (0, 0, 5) else (valL (l.take (n + 1)), n + 1, 0) := by
  have e : l.drop n = l.getD n 0 :: l.drop (n + 1) := by
    rw [List.drop_eq_getElem_cons hn]; simp [List.getD, List.getElem?_eq_getElem hn]
  have e2 : l.take (n + 1) = l.take n ++ [l.getD n 0] := by
    rw [List.take_succ_eq_append_getElem hn]; simp [List.getD, List.getElem?_eq_getElem hn]
  have e3 : (l.take n).length = n := by simp; omega
  rw [digs_run n l 0 0 (by omega) (by omega) hb, e, digs, e2, valL_snoc, e3]
  simp only [Nat.zero_add, Nat.pow_zero, Nat.mul_one]
  split
  · rfl
  · rw [if_neg (by omega)]

/-! From no other bytes. -/
theorem giveS_e {st : RS} {e : Int} (he : e ≠ 0) : (giveS st e).e ≠ 0 := by unfold giveS; split; exact he; assumption
theorem uintR_e {st : RS} {m : Nat} (h : (uintR m st).2.e = 0) : st.e = 0 := by
  unfold uintR at h; simp only at h; (repeat' split at h)
  · rename_i hd; exact absurd h (giveS_e hd)
  · exact absurd h (giveS_e (by decide))
  · exact h
theorem bytesR_e {st : RS} {n : Nat} (h : (bytesR n st).2.e = 0) : st.e = 0 := by
  unfold bytesR at h; split at h
  · exact absurd h (giveS_e (by decide))
  · exact h
theorem uintR_inv {b l : List Int} {m x : Nat} (hb : isB b) (h : uintR m ⟨b, 0⟩ = (x, ⟨l, 0⟩)) : b = sevens x ++ l ∧ x < 2 ^ 64 ∧ x ≤ m := by
  unfold uintR at h
  simp only at h
  split at h
  · rename_i hd
    have := congrArg (fun z => z.2.e) h
    exact absurd this (giveS_e hd)
  · split at h
    · have := congrArg (fun z => z.2.e) h
      exact absurd this (giveS_e (by decide))
    · rename_i hd hm
      obtain ⟨v, n, e⟩ : ∃ v n, digs b 0 0 = (v, n, 0) := ⟨_, _, Prod.ext rfl (Prod.ext rfl (Classical.not_not.1 hd))⟩
      rw [e] at h hm
      simp only [Prod.mk.injEq, RS.mk.injEq] at h
      obtain ⟨rfl, rfl, -⟩ := h
      obtain ⟨y, h1, h2, h3, h4, -⟩ := digs_inv b 0 0 _ _ hb (by omega) e
      simp only [Nat.pow_zero, Nat.mul_one, Nat.zero_add] at h1 h2 h4
      subst h1; subst h2
      exact ⟨h3, h4, by simpa using hm⟩
theorem bytesR_inv {b l m : List Int} {n : Nat} (h : bytesR n ⟨b, 0⟩ = (m, ⟨l, 0⟩)) : b = m ++ l ∧ m.length = n := by
  unfold bytesR at h
  simp only at h
  split at h
  · have := congrArg (fun z => z.2.e) h
    exact absurd this (giveS_e (by decide))
  · rename_i hn
    simp only [Prod.mk.injEq, RS.mk.injEq] at h
    obtain ⟨rfl, rfl, -⟩ := h
    exact ⟨(List.take_append_drop n b).symm, by simp; omega⟩
theorem wordR_inv {b l : List Int} {x : Nat} (hb : isB b) (h : wordR ⟨b, 0⟩ = (x, ⟨l, 0⟩)) : b = wordL (x : Int) ++ l ∧ x < 2 ^ 64 := by
  unfold wordR at h
  simp only [Prod.mk.injEq] at h
  obtain ⟨h1, h2⟩ := h
  obtain ⟨m, hm⟩ : ∃ m, bytesR 8 ⟨b, 0⟩ = (m, ⟨l, 0⟩) := ⟨_, Prod.ext rfl h2⟩
  rw [hm] at h1
  simp only at h1
  obtain ⟨rfl, h8⟩ := bytesR_inv hm
  have hbm : isB m := fun z hz => hb z (List.mem_append.2 (.inl hz))
  subst h1
  exact ⟨by rw [word_inv hbm h8], ofBytes_lt64 hbm (by omega)⟩
theorem floatR_inv {b l : List Int} {x : Nat} {ver : Int} (hb : isB b) (h : floatR ver ⟨b, 0⟩ = (x, ⟨l, 0⟩)) : b = floatL x ver ++ l ∧ x < 2 ^ 64 := by
  unfold floatR at h
  unfold floatL
  by_cases hv : ver = 1
  · rw [if_pos hv] at h ⊢; exact wordR_inv hb h
  · rw [if_neg hv] at h ⊢
    simp only [Prod.mk.injEq] at h
    obtain ⟨h1, h2⟩ := h
    obtain ⟨y, hy⟩ : ∃ y, uintR 18446744073709551615 ⟨b, 0⟩ = (y, ⟨l, 0⟩) := ⟨_, Prod.ext rfl h2⟩
    rw [hy] at h1
    simp only at h1
    obtain ⟨h3, h4, -⟩ := uintR_inv hb hy
    subst h1
    exact ⟨by rw [rev_rev h4]; exact h3, rev_lt⟩
theorem floatR_e {st : RS} {ver : Int} (h : (floatR ver st).2.e = 0) : st.e = 0 := by
  unfold floatR at h; split at h
  · exact bytesR_e h
  · exact uintR_e h
theorem partR_e {st : RS} {t : Bool} (h : (partR t st).2.e = 0) : st.e = 0 := by
  unfold partR at h; split at h
  · simp only at h; split at h
    · exact absurd h (giveS_e (by decide))
    · exact floatR_e h
  · exact h
theorem partR_inv {b l : List Int} {x : Nat} {t : Bool} (hb : isB b) (h : partR t ⟨b, 0⟩ = (x, ⟨l, 0⟩)) : t = decide (x ≠ 0) ∧ b = (if x = 0 then [] else floatL x 2) ++ l ∧ x < 2 ^ 64 := by
  unfold partR at h
  cases t with
  | false =>
    simp only [Bool.false_eq_true, if_false, Prod.mk.injEq, RS.mk.injEq] at h
    obtain ⟨rfl, rfl, -⟩ := h
    exact ⟨rfl, rfl, by decide⟩
  | true =>
    simp only [if_true, Prod.mk.injEq] at h
    obtain ⟨h1, h2⟩ := h
    split at h2
    · have := congrArg RS.e h2
      exact absurd this (giveS_e (by decide))
    · rename_i hx
      obtain ⟨h3, h4⟩ := floatR_inv hb (Prod.ext h1 h2)
      rw [h1] at hx
      exact ⟨by simp [hx], by rw [if_neg hx]; exact h3, h4⟩
theorem RS.eta (st : RS) (h : st.e = 0) : st = ⟨st.l, 0⟩ := by cases st; simp only at h; subst h; rfl
theorem complexR_inv {b l : List Int} {x y : Nat} {ver : Int} (hv : ver = 1 ∨ ver = 2) (hb : isB b) (h : complexR ver ⟨b, 0⟩ = ((x, y), ⟨l, 0⟩)) : b = complexL x y ver ++ l ∧ x < 2 ^ 64 ∧ y < 2 ^ 64 := by
  unfold complexR at h
  rcases hv with rfl | rfl
  · rw [if_pos rfl] at h
    simp only [Prod.mk.injEq] at h
    obtain ⟨⟨h1, h2⟩, h3⟩ := h
    have he : (wordR ⟨b, 0⟩).2.e = 0 := bytesR_e (by have := congrArg RS.e h3; exact this)
    have e1 : wordR ⟨b, 0⟩ = (x, ⟨(wordR ⟨b, 0⟩).2.l, 0⟩) := Prod.ext h1 (RS.eta _ he)
    obtain ⟨h4, h5⟩ := wordR_inv hb e1
    rw [RS.eta _ he] at h2 h3
    have hb2 : isB (wordR ⟨b, 0⟩).2.l := fun z hz => hb z (by rw [h4]; exact List.mem_append.2 (.inr hz))
    obtain ⟨h6, h7⟩ := wordR_inv hb2 (Prod.ext h2 h3)
    refine ⟨?_, h5, h7⟩
    unfold complexL floatL
    rw [if_neg (by decide), if_pos rfl, if_pos rfl, List.append_assoc, ← h6]; exact h4
  · rw [if_neg (by decide)] at h
    simp only [Prod.mk.injEq] at h
    obtain ⟨⟨h1, h2⟩, h3⟩ := h
    obtain ⟨m, S1, hm⟩ : ∃ m S1, byteR ⟨b, 0⟩ = (m, S1) := ⟨_, _, rfl⟩
    rw [hm] at h1 h2 h3
    simp only at h1 h2 h3
    obtain ⟨S2, hS2⟩ : ∃ S2, S2 = (if 3 < m then giveS S1 4 else S1) := ⟨_, rfl⟩
    rw [← hS2] at h1 h2 h3
    obtain ⟨p, S3, hp⟩ : ∃ p S3, partR (decide (m % 2 = 1)) S2 = (p, S3) := ⟨_, _, rfl⟩
    rw [hp] at h1 h2 h3
    simp only at h1 h2 h3
    subst h1
    have e3 : S3.e = 0 := partR_e (t := decide (m / 2 % 2 = 1)) (by rw [h3])
    have e2 : S2.e = 0 := partR_e (t := decide (m % 2 = 1)) (by rw [hp]; exact e3)
    have hm3 : ¬ 3 < m := by
      intro h3
      rw [if_pos h3] at hS2
      rw [hS2] at e2
      exact giveS_e (by decide) e2
    rw [if_neg hm3] at hS2
    subst hS2
    obtain ⟨L1, rfl⟩ : ∃ L, S2 = ⟨L, 0⟩ := ⟨_, RS.eta _ e2⟩
    obtain ⟨L3, rfl⟩ : ∃ L, S3 = ⟨L, 0⟩ := ⟨_, RS.eta _ e3⟩
    have hbm : bytesR 1 ⟨b, 0⟩ = ((bytesR 1 ⟨b, 0⟩).1, ⟨L1, 0⟩) := Prod.ext rfl (by have := congrArg Prod.snd hm; exact this)
    obtain ⟨hb1, hb2⟩ := bytesR_inv hbm
    obtain ⟨z, hz⟩ : ∃ z, (bytesR 1 ⟨b, 0⟩).1 = [z] := by
      cases hq : (bytesR 1 ⟨b, 0⟩).1 with
      | nil => rw [hq] at hb2; cases hb2
      | cons z q => cases q with
        | nil => exact ⟨z, rfl⟩
        | cons y q => rw [hq] at hb2; simp at hb2
    have hzm : z = m := by have := congrArg Prod.fst hm; simp only [byteR, hz] at this; exact this
    subst hzm
    rw [hz] at hb1
    have hB1 : isB L1 := fun q hq => hb q (by rw [hb1]; exact List.mem_append.2 (.inr hq))
    obtain ⟨t1, l1, x1⟩ := partR_inv hB1 hp
    have hB3 : isB L3 := fun q hq => hB1 q (by rw [l1]; exact List.mem_append.2 (.inr hq))
    obtain ⟨t2, l2, x2⟩ := partR_inv hB3 (Prod.ext h2 h3)
    have hz0 : 0 ≤ z := (hb z (by rw [hb1]; simp)).1
    have hmark : z = markOf p y := by
      have q1 := decide_eq_decide.1 t1
      have q2 := decide_eq_decide.1 t2
      unfold markOf
      clear hb hb1 hb2 hz hm hbm hp h2 h3 l1 l2 t1 t2 x1 x2 hB1 hB3 e2 e3
      split <;> split <;> simp_all <;> omega
    refine ⟨?_, x1, x2⟩
    unfold complexL
    rw [if_pos rfl, hb1, ← hmark, List.append_assoc, List.append_assoc, ← l2, ← l1]

theorem byteR_inv {b l : List Int} {x : Int} (h : byteR ⟨b, 0⟩ = (x, ⟨l, 0⟩)) : b = x :: l := by
  unfold byteR at h
  simp only [Prod.mk.injEq] at h
  obtain ⟨h1, h2⟩ := h
  obtain ⟨m, hm⟩ : ∃ m, bytesR 1 ⟨b, 0⟩ = (m, ⟨l, 0⟩) := ⟨_, Prod.ext rfl h2⟩
  rw [hm] at h1
  obtain ⟨hb1, hb2⟩ := bytesR_inv hm
  cases m with
  | nil => cases hb2
  | cons z q => cases q with
    | nil => simp at h1; subst h1; exact hb1
    | cons y q => simp at hb2
theorem textR_inv {b l m : List Int} {n : Nat} (hb : isB b) (h : textR n ⟨b, 0⟩ = (m, ⟨l, 0⟩)) : b = sevens m.length ++ m ++ l ∧ m.length ≤ n := by
  unfold textR at h
  simp only at h
  obtain ⟨x, S1, hx⟩ : ∃ x S1, uintR n ⟨b, 0⟩ = (x, S1) := ⟨_, _, rfl⟩
  rw [hx] at h
  simp only at h
  have he : S1.e = 0 := bytesR_e (n := x) (by rw [h])
  obtain ⟨L1, rfl⟩ : ∃ L, S1 = ⟨L, 0⟩ := ⟨_, RS.eta _ he⟩
  obtain ⟨h1, -, h2⟩ := uintR_inv hb hx
  obtain ⟨h3, h4⟩ := bytesR_inv h
  subst h4
  exact ⟨by rw [h1, h3, List.append_assoc], h2⟩
theorem failS_e {S : RS} {e : Int} (h : (failS S e).e = 0) : e = 0 ∧ S.e = 0 := by
  unfold failS at h
  split at h
  · rename_i he; exact absurd h (giveS_e he)
  · rename_i he; exact ⟨Classical.not_not.1 he, h⟩

theorem wf_mk {ty n : Int} {x y : Nat} {s : ByteArray} (h1 : -9223372036854775808 ≤ n) (h2 : n < 9223372036854775808) (h3 : x < 2 ^ 64) (h4 : y < 2 ^ 64) : V.wf ⟨ty, n, x, y, s⟩ := ⟨⟨h1, h2⟩, h3, h4⟩
/-- What is taken of any bytes is put as just these. -/
theorem takeV_inv {b l : List Int} {kind ver : Int} {v : V} (hb : isB b) (hv : ver = 1 ∨ ver = 2) (h : takeV kind ver ⟨b, 0⟩ = (v, ⟨l, 0⟩)) : v.right = 0 ∧ v.wf ∧ v.ty = kind ∧ b = v.put ver ++ l := by
  unfold takeV at h
  rw [if_pos hv] at h
  simp only at h
  split at h
  · rename_i he
    have := congrArg (fun z => z.2.e) h
    exact absurd this he
  · rename_i he
    simp only [Classical.not_not] at he
    obtain ⟨v', S, hS⟩ : ∃ v' S, bodyR kind ver ⟨b, 0⟩ = (v', S) := ⟨_, _, rfl⟩
    rw [hS] at h he
    simp only at h he
    obtain ⟨hr, hSe⟩ := failS_e he
    simp only [Prod.mk.injEq] at h
    obtain ⟨rfl, h2⟩ := h
    have hS2 : S = ⟨l, 0⟩ := by unfold failS at h2; rw [if_neg (by simp [hr])] at h2; exact h2
    subst hS2
    clear h2 he hSe
    unfold bodyR at hS
    have hty := right_zero hr
    (repeat' split at hS)
    · rename_i hk
      simp only [Prod.mk.injEq] at hS
      obtain ⟨rfl, h2⟩ := hS
      have hx := byteR_inv (x := (byteR ⟨b, 0⟩).1) (Prod.ext rfl h2)
      simp only at hty
      have h01 := hty.2.2.2.1 hk
      refine ⟨hr, wf_mk (by omega) (by omega) (by decide) (by decide), rfl, ?_⟩
      simp only [V.put, putL]; rw [if_pos hk]; exact hx
    · rename_i hk hv1
      simp only [Prod.mk.injEq] at hS
      obtain ⟨rfl, h2⟩ := hS
      obtain ⟨h3, h4⟩ := wordR_inv (x := (wordR ⟨b, 0⟩).1) hb (Prod.ext rfl h2)
      refine ⟨hr, wf_mk (toI64_rng h4).1 (toI64_rng h4).2 (by decide) (by decide), rfl, ?_⟩
      simp only [V.put, putL]; rw [if_neg (by omega), if_pos hk, if_pos hv1, mod_toI64 h4]; exact h3
    · rename_i hk hv1
      simp only [Prod.mk.injEq, intR] at hS
      obtain ⟨rfl, h2⟩ := hS
      obtain ⟨h3, h4, -⟩ := uintR_inv (x := (uintR 18446744073709551615 ⟨b, 0⟩).1) hb (Prod.ext rfl h2)
      refine ⟨hr, wf_mk (zag_rng h4).1 (zag_rng h4).2 (by decide) (by decide), rfl, ?_⟩
      simp only [V.put, putL]; rw [if_neg (by omega), if_pos hk, if_neg hv1, zig_zag]; exact h3
    · rename_i hk
      simp only [Prod.mk.injEq] at hS
      obtain ⟨rfl, h2⟩ := hS
      obtain ⟨h3, h4⟩ := floatR_inv (x := (floatR ver ⟨b, 0⟩).1) hb (Prod.ext rfl h2)
      refine ⟨hr, wf_mk (by decide) (by decide) h4 (by decide), rfl, ?_⟩
      simp only [V.put, putL]; rw [if_neg (by omega), if_neg (by omega), if_pos hk]; exact h3
    · rename_i hk
      simp only [Prod.mk.injEq] at hS
      obtain ⟨rfl, h2⟩ := hS
      obtain ⟨h3, h4, h5⟩ := complexR_inv (x := (complexR ver ⟨b, 0⟩).1.1) (y := (complexR ver ⟨b, 0⟩).1.2) hv hb (Prod.ext rfl h2)
      refine ⟨hr, wf_mk (by decide) (by decide) h4 h5, rfl, ?_⟩
      simp only [V.put, putL]; rw [if_neg (by omega), if_neg (by omega), if_neg (by omega), if_pos hk]; exact h3
    · rename_i hk
      simp only [Prod.mk.injEq] at hS
      obtain ⟨rfl, h2⟩ := hS
      obtain ⟨h3, h4⟩ := textR_inv (m := (textR 2048 ⟨b, 0⟩).1) hb (Prod.ext rfl h2)
      have hbm : isB (textR 2048 ⟨b, 0⟩).1 := fun z hz => hb z (by rw [h3]; simp [hz])
      refine ⟨hr, wf_mk (by decide) (by decide) (by decide) (by decide), rfl, ?_⟩
      simp only [V.put, putL]
      rw [if_neg (by omega), if_neg (by omega), if_neg (by omega), if_neg (by omega), strL_strOf hbm, strOfNums_size]; exact h3
    · exfalso
      simp only [Prod.mk.injEq] at hS
      obtain ⟨rfl, h2⟩ := hS
      simp only at hty
      omega

/-! Cut anywhere. -/
def gone : RS := ⟨[], 1⟩
theorem give_gone (e : Int) : giveS gone e = gone := rfl
theorem digs_cut : ∀ (k x n v : Nat) (q : List Int), x ≤ k → x * 128 ^ n < 2 ^ 64 → (1 ≤ n → 1 ≤ x) → q.length < (sevens x).length → (∃ r, sevens x = q ++ r) → digs q n v = (0, 0, 1) := by
  intro k
  induction k using Nat.strongRecOn with
  | _ k ih =>
    intro x n v q hk hx hn hq ⟨r, hr⟩
    cases q with
    | nil => rfl
    | cons b q =>
      by_cases h : x < 128
      · rw [sevens_lt h] at hq; simp at hq
      · rw [sevens_ge h] at hr hq
        simp only [List.cons_append, List.cons.injEq, List.length_cons] at hr hq
        obtain ⟨rfl, hr⟩ := hr
        have hn8 : n ≠ 9 := by
          rintro rfl
          have h3 : 128 * 128 ^ 9 ≤ x * 128 ^ 9 := Nat.mul_le_mul_right _ (by omega)
          have h4 : (2 : Nat) ^ 64 < 128 * 128 ^ 9 := by decide
          omega
        have ep : 128 ^ (n + 1) = 128 * 128 ^ n := by rw [Nat.pow_succ, Nat.mul_comm]
        have hd : (x / 128) * (128 * 128 ^ n) ≤ x * 128 ^ n := by
          rw [← Nat.mul_assoc]; exact Nat.mul_le_mul_right _ (by omega)
        rw [digs, if_neg (by omega), if_pos (by omega)]
        exact ih (x / 128) (by omega) (x / 128) (n + 1) _ q (Nat.le_refl _) (by rw [ep]; omega) (fun _ => by omega) (by omega) ⟨r, hr⟩

theorem uintR_cut {x m : Nat} {q : List Int} (hx : x < 2 ^ 64) (hq : q.length < (sevens x).length) (hr : ∃ r, sevens x = q ++ r) : uintR m ⟨q, 0⟩ = (0, gone) := by
  unfold uintR
  simp only [digs_cut x x 0 0 q (Nat.le_refl _) (by simpa using hx) (fun h => by omega) hq hr]
  rfl
theorem uintR_gone (m : Nat) : uintR m gone = (0, gone) := rfl
theorem bytesR_cut {n : Nat} {q : List Int} (hq : q.length < n) : bytesR n ⟨q, 0⟩ = ([], gone) := by unfold bytesR; rw [if_pos hq]; rfl
theorem wordR_cut {q : List Int} (hq : q.length < 8) : wordR ⟨q, 0⟩ = (0, gone) := by unfold wordR; rw [bytesR_cut hq]; rfl
theorem wordR_gone : wordR gone = (0, gone) := rfl
theorem floatR_gone (ver : Int) : floatR ver gone = (0, gone) := by
  unfold floatR; split
  · rfl
  · rw [uintR_gone]; rfl
theorem floatR_cut {x : Nat} {ver : Int} {q : List Int} (hq : q.length < (floatL x ver).length) (hr : ∃ r, floatL x ver = q ++ r) : floatR ver ⟨q, 0⟩ = (0, gone) := by
  unfold floatR floatL at *
  by_cases hv : ver = 1
  · rw [if_pos hv] at *; rw [wordL_len] at hq; exact wordR_cut hq
  · rw [if_neg hv] at *; rw [uintR_cut rev_lt hq hr]; rfl
theorem partR_gone (t : Bool) : partR t gone = (0, gone) := by
  unfold partR; split
  · rw [floatR_gone]; rfl
  · rfl
theorem partR_cut {x : Nat} {q : List Int} (hq : q.length < (floatL x 2).length) (hr : ∃ r, floatL x 2 = q ++ r) : partR true ⟨q, 0⟩ = (0, gone) := by
  unfold partR; rw [if_pos rfl, floatR_cut hq hr]; rfl

theorem complexR_gone (ver : Int) : (complexR ver gone).2 = gone := by
  unfold complexR; split
  · rfl
  · have : byteR gone = (0, gone) := rfl
    simp only [this, give_gone, ite_self, partR_gone]

/-- A part ahead of the end: either within the first, or the first and a part of the second. -/
theorem cut_append {p m q r : List Int} (h : p ++ m = q ++ r) : (∃ s, p = q ++ s ∧ q.length < p.length) ∨ ∃ s, q = p ++ s ∧ m = s ++ r := by
  rcases Nat.lt_or_ge q.length p.length with hl | hl
  · left
    refine ⟨p.drop q.length, ?_, hl⟩
    have := congrArg (List.take q.length) h
    rw [List.take_append_of_le_length (by omega), List.take_left] at this
    rw [← this, List.length_take, Nat.min_eq_left (by omega), List.take_append_drop]
  · right
    refine ⟨q.drop p.length, ?_, ?_⟩
    · have := congrArg (List.take p.length) h
      rw [List.take_left, List.take_append_of_le_length hl] at this
      conv => rhs; lhs; rw [this]
      rw [List.take_append_drop]
    · have := congrArg (List.drop p.length) h
      rw [List.drop_left, List.drop_append_of_le_length hl] at this
      exact this

theorem takeV_cut {v : V} {ver : Int} {q r : List Int} (hv : ver = 1 ∨ ver = 2) (hr : v.right = 0) (hw : v.wf) (h : v.put ver = q ++ r) (hr0 : r ≠ []) : takeV v.ty ver ⟨q, 0⟩ = (V.zero, gone) := by
  have hz := right_zero hr
  obtain ⟨w1, w2, w3⟩ := hw
  have hlt : q.length < (v.put ver).length := by
    rw [h, List.length_append]; have := List.length_pos_iff.2 hr0; omega
  have key : (bodyR v.ty ver ⟨q, 0⟩).2 = gone := by
    obtain ⟨ty, n, x, y, s⟩ := v
    simp only at *
    have ht : ty = 1 ∨ ty = 2 ∨ ty = 3 ∨ ty = 4 ∨ ty = 5 ∨ ty = 6 := by omega
    unfold bodyR
    rcases ht with rfl | rfl | rfl | rfl | rfl | rfl
    · simp only [V.put, putL] at hlt
      have : q.length < 1 := by simpa using hlt
      rw [if_pos rfl]
      simp only [byteR, bytesR_cut this]
    · rw [if_neg (by decide), if_pos rfl]
      rcases hv with rfl | rfl
      · have e : V.put ⟨2, n, x, y, s⟩ 1 = wordL (n % 18446744073709551616) := by simp [V.put, putL]
        rw [e, wordL_len] at hlt
        rw [if_pos rfl, wordR_cut hlt]
      · have e : V.put ⟨2, n, x, y, s⟩ 2 = sevens (zig n) := by simp [V.put, putL]
        rw [e] at hlt h
        rw [if_neg (by decide)]
        simp only [intR, uintR_cut (zig_lt n w1) hlt ⟨r, h⟩]
    · have e : V.put ⟨3, n, x, y, s⟩ ver = floatL x ver := by simp [V.put, putL]
      rw [e] at hlt h
      rw [if_neg (by decide), if_neg (by decide), if_pos rfl]
      simp only [floatR_cut hlt ⟨r, h⟩]
    · have e : V.put ⟨4, n, x, y, s⟩ ver = complexL x y ver := by simp [V.put, putL]
      rw [e] at hlt h
      rw [if_neg (by decide), if_neg (by decide), if_neg (by decide), if_pos rfl]
      show (complexR ver ⟨q, 0⟩).2 = gone
      unfold complexR complexL at *
      rcases hv with rfl | rfl
      · rw [if_neg (by decide)] at h hlt
        rw [if_pos rfl]
        have f1 : floatL x 1 = wordL (x : Int) := by unfold floatL; rw [if_pos rfl]
        have f2 : floatL y 1 = wordL (y : Int) := by unfold floatL; rw [if_pos rfl]
        rw [f1, f2] at h hlt
        rcases cut_append h with ⟨t, h1, h2⟩ | ⟨t, h1, h2⟩
        · rw [wordL_len] at h2
          simp only [wordR_cut h2, wordR_gone]
        · subst h1
          have : t.length < 8 := by simp [wordL_len] at hlt; omega
          simp only [wordR_put t w2, wordR_cut this]
      · rw [if_pos rfl] at h hlt
        rw [if_neg (by decide)]
        have m1 : decide (markOf x y % 2 = 1) = decide (x ≠ 0) := by unfold markOf; split <;> split <;> simp_all
        have m2 : decide (markOf x y / 2 % 2 = 1) = decide (y ≠ 0) := by unfold markOf; split <;> split <;> simp_all
        have m3 : ¬ 3 < markOf x y := by unfold markOf; split <;> split <;> omega
        cases q with
        | nil =>
          have : byteR ⟨[], 0⟩ = (0, gone) := rfl
          simp only [this, give_gone, ite_self, partR_gone]
        | cons b q =>
          simp only [List.cons_append, List.nil_append, List.cons.injEq] at h
          obtain ⟨rfl, h⟩ := h
          have hb : byteR ⟨markOf x y :: q, 0⟩ = (markOf x y, ⟨q, 0⟩) := rfl
          simp only [hb, m1, m2, if_neg m3]
          rcases cut_append h with ⟨t, h1, h2⟩ | ⟨t, h1, h2⟩
          · by_cases hx : x = 0
            · rw [if_pos hx] at h2; simp at h2
            · rw [if_neg hx] at h1 h2
              have : decide (x ≠ 0) = true := by simp [hx]
              rw [this, partR_cut h2 ⟨t, h1⟩]
              simp only [partR_gone]
          · subst h1
            rw [partR_put t w2]
            simp only
            by_cases hy : y = 0
            · exfalso
              rw [if_pos hy] at h2
              have := congrArg List.length h2
              have h3 := List.length_pos_iff.2 hr0
              simp at this
              omega
            · rw [if_neg hy] at h2
              have : decide (y ≠ 0) = true := by simp [hy]
              have hl : t.length < (floatL y 2).length := by rw [h2, List.length_append]; have := List.length_pos_iff.2 hr0; omega
              rw [this, partR_cut hl ⟨r, h2⟩]
    all_goals
      simp [V.put, putL, -List.append_assoc] at hlt h
      simp only [Int.reduceEq, if_false, if_true, or_true, true_or]
      show (textR 2048 ⟨q, 0⟩).2 = gone
      have hs := hz.2.2.1
      unfold textR
      rcases cut_append h with ⟨t, h1, h2⟩ | ⟨t, h1, h2⟩
      · rw [uintR_cut (by omega) h2 ⟨t, h1⟩]; rfl
      · subst h1
        rw [uintR_sevens t (by omega) hs]
        have : t.length < s.size := by simp [strL_len] at hlt; omega
        simp only [bytesR_cut this]
  unfold takeV
  rw [if_pos hv]
  simp only [key]
  have hf : ∀ e, failS gone e = gone := fun e => by unfold failS; split; exact give_gone e; rfl
  rw [hf]
  rw [if_pos (show gone.e ≠ 0 by decide)]

end Go.Proofs.YtibgippchdmdlaaGreat

/-
The reference's reader: bytes, numbers.
-/
namespace Go.Proofs.YtibgippchdmdlaaGreat
open Go.RowKit

/-- A part of a slice as a string. -/
theorem conv_part {w : World} {g d : Nat} {a : Option Addr} {L : List Int} {len cap i n : Nat} (h : SB w g d (.slice a len cap) L) (hi : i + n ≤ L.length) (a' : Option Addr) (cap' : Nat)
    (ha : n = 0 ∨ ∀ b o, a = some ⟨b, o, none⟩ → a' = some ⟨b, o + i, none⟩) : (convert 40 9 (.slice a' n cap')).run Tryz.prog w = .ok (.string (strOfNums ((L.drop i).take n))) w := by
  refine conv_Sl ⟨a', cap', by simp; omega, ?_⟩
  rcases Nat.eq_zero_or_pos n with hz | hz
  · subst hz; exact .inl rfl
  · obtain ⟨a0, c, hv, -, -, hs⟩ := h
    simp only [Value.slice.injEq] at hv
    obtain ⟨rfl, -, -⟩ := hv
    rcases hs with hs | ⟨b, o, hab, hb, -, hc⟩
    · subst hs; simp at hi; omega
    · rcases ha with ha | ha
      · omega
      · refine .inr ⟨b, o + i, ha b o hab, hb, fun k hk j hj => ?_⟩
        obtain rfl : j = 0 := by omega
        simp only [List.length_map, List.length_take, List.length_drop] at hk
        rw [Nat.mul_one, Nat.add_zero, Nat.add_assoc, hc (i + k) (by omega)]
        have h1 : i + k < L.length := by omega
        simp [bcell, List.getD, List.getElem?_map, List.getElem?_eq_getElem h1, show k < n by omega]

set_option maxRecDepth 100000 in set_option maxHeartbeats 1600000 in
theorem fbytes0_any (g d : Nat) (st : RS) (w : World) (h : RF w g d st) :
    Calls Tryz.prog 117 #[.pointer (some ⟨g, 0, none⟩), .int .u64 0] w (FPost g d w (.string (strOfNums [])) st) := by
  have H := Hid.mk' h
  have HLF := Hid.mk' (fun w h => fleft_any g d st w h)
  obtain ⟨v, L, a, hb, ⟨ad, cap, rfl, hlc, hnc, hs⟩, hat, hl, hB, hlen⟩ := h
  have hc := hb.cell
  have hf := hb.frozen
  have hlt := hb.lt
  have HB := Hid.mk' hb
  have hll : st.l.length ≤ 1000000 := by rw [hl]; split <;> simp <;> omega
  have HS : Hid (SB w g d (.slice ad L.length cap) L) := Hid.mk' ⟨ad, cap, rfl, hlc, hnc, hs⟩
  have HEND : Hid (∀ q k, FPost g d w (.string (strOfNums [])) st (.returned (.string (strOfNums []))) (((w.drewN q).setCell ⟨g, 1, none⟩ (.int .i64 (a : Int))).drewN k)) := Hid.mk' (fun q k => by
    have ht : Tch g w ((w.drewN q).setCell ⟨g, 1, none⟩ (.int .i64 (a : Int))) := (Tch.of_ext ((Ext.refl w).drewN q)).trans ((Tch.refl g _).set 1 _)
    refine ⟨rfl, RF.drewN ⟨_, L, a, by have h := (HB.out.drewN q).set 1 (.int .i64 (a : Int)); simpa using h, HS.out.tch ht (.inr (Nat.le_refl _)), hat, hl, hB, hlen⟩ k, ht.drewN k⟩)
  have HC2 : Hid (∀ q, ((w.drewN q).setCell ⟨g, 1, none⟩ (.int .i64 (a : Int))).cell? ⟨g, 0, none⟩ = some (.slice ad L.length cap) ∧ ((w.drewN q).setCell ⟨g, 1, none⟩ (.int .i64 (a : Int))).cell? ⟨g, 1, none⟩ = some (.int .i64 (a : Int))) := Hid.mk' (fun q => ⟨((HB.out.drewN q).set 1 (.int .i64 (a : Int))).cell 0, ((HB.out.drewN q).set 1 (.int .i64 (a : Int))).cell 1⟩)
  have hcv : ∀ (a' : Option Addr) (cap' : Nat) (w : World), (convert 40 9 (.slice a' 0 cap')).run Tryz.prog w = .ok (.string (strOfNums [])) w := fun a' cap' w => conv_Sl (l := []) ⟨a', cap', rfl, .inl rfl⟩
  clear hb hl hB hs
  by_cases hca : cap = a
  · subst hca
    go_enter Tryz.func117, Tryz.ntmps117
    go_upto_region 5 with (go_at_call 105; refine (HLF.out _ H.out).mono ?_; rintro e w1 ⟨rfl, q1, rfl⟩)
    obtain ⟨hg0, hg1⟩ := HC2.out q1
    obtain ⟨W2, hW2⟩ : ∃ W2 : World, W2 = (w.drewN q1).setCell ⟨g, 1, none⟩ (.int .i64 (cap : Int)) := ⟨_, rfl⟩
    have HE := HEND.out q1
    rw [← hW2] at hg0 hg1 HE ⊢
    have HEE := Hid.mk' HE
    clear hW2 HE
    go_quiet (fail)
    go_wp2
    go_ret
    exact HEE.out nq
  · cases ad with
    | none => have := hnc rfl; omega
    | some ad =>
      clear hnc
      go_enter Tryz.func117, Tryz.ntmps117
      go_upto_region 5 with (go_at_call 105; refine (HLF.out _ H.out).mono ?_; rintro e w1 ⟨rfl, q1, rfl⟩)
      obtain ⟨hg0, hg1⟩ := HC2.out q1
      obtain ⟨W2, hW2⟩ : ∃ W2 : World, W2 = (w.drewN q1).setCell ⟨g, 1, none⟩ (.int .i64 (a : Int)) := ⟨_, rfl⟩
      have HE := HEND.out q1
      rw [← hW2] at hg0 hg1 HE ⊢
      have HEE := Hid.mk' HE
      clear hW2 HE
      go_quiet (fail)
      go_wp2
      go_ret
      exact HEE.out nq

set_option maxRecDepth 100000 in set_option maxHeartbeats 1600000 in
theorem fbytes_any (g d : Nat) (st : RS) (n : Nat) (w : World) (h : RF w g d st) (hn : n < 18446744073709551616) :
    Calls Tryz.prog 117 #[.pointer (some ⟨g, 0, none⟩), .int .u64 n] w (FPost g d w (.string (strOfNums (bytesR n st).1)) (bytesR n st).2) := by
  rcases Nat.eq_zero_or_pos n with hz | hpos
  · subst hz
    have e : bytesR 0 st = ([], st) := by unfold bytesR; rw [if_neg (by omega)]; rfl
    rw [e]
    exact fbytes0_any g d st w h
  have H := Hid.mk' h
  have HLF := Hid.mk' (fun w h => fleft_any g d st w h)
  obtain ⟨v, L, a, hb, ⟨ad, cap, rfl, hlc, hnc, hs⟩, hat, hl, hB, hlen⟩ := h
  have hc := hb.cell
  have hf := hb.frozen
  have hlt := hb.lt
  have HB := Hid.mk' hb
  have HS : Hid (SB w g d (.slice ad L.length cap) L) := Hid.mk' ⟨ad, cap, rfl, hlc, hnc, hs⟩
  have hll : st.l.length ≤ 1000000 := by rw [hl]; split <;> simp <;> omega
  clear hb
  by_cases hk : st.l.length < n
  · have hE : Hid (bytesR n st = ([], giveS st 1)) := Hid.mk' (by unfold bytesR; rw [if_pos hk])
    have HG := Hid.mk' (fun w h => fgive_any g d st 1 w h (by decide))
    clear hs hlc hnc hl
    go_enter Tryz.func117, Tryz.ntmps117
    go_wp2_with (first
      | (go_at_call 105; refine (HLF.out _ H.out).mono ?_; rintro e w1 ⟨rfl, q1, rfl⟩)
      | (go_at_call 75; refine (HG.out _ (H.out.drewN q1)).mono ?_; rintro e w2 ⟨rfl, hr, ht⟩; have HR := Hid.mk' hr; have HT := Hid.mk' ht; clear hr ht))
    go_ret
    exact ⟨by rw [hE.out]; rfl, by rw [hE.out]; exact HR.out, (Tch.of_ext ((Ext.refl w).drewN q1)).trans HT.out⟩
  · have hE : Hid (bytesR n st = (st.l.take n, ⟨st.l.drop n, st.e⟩)) := Hid.mk' (by unfold bytesR; rw [if_neg hk])
    have hkn : n ≤ st.l.length := by omega
    clear hk
    by_cases he : st.e = 0
    · have hl2 : st.l = L.drop a := by rw [hl, if_pos he]
      have hal : a + n ≤ L.length := by rw [hl2, List.length_drop] at hkn; omega
      have HL2 := Hid.mk' hl2
      have HE := Hid.mk' he
      clear hl hl2 hs he
      have HLE : Hid (L.drop a = st.l) := Hid.mk' HL2.out.symm
      rw [HE.out] at hc HB
      have hBD := hB
      have HBI := Hid.mk' hB
      have HLEN := Hid.mk' hlen
      have hal' : (a : Int) + n ≤ 1000000 := by omega
      clear hB hBD
      obtain ⟨W2, hW2⟩ : ∃ W2 : Nat → World, ∀ q, W2 q = (w.drewN q).setCell ⟨g, 1, none⟩ (.int .i64 ((a : Int) + (n : Int))) := ⟨_, fun _ => rfl⟩
      have HW2 := Hid.mk' hW2
      have HT2 : Hid (∀ q, Tch g w (W2 q)) := Hid.mk' (fun q => by rw [HW2.out]; exact (Tch.of_ext ((Ext.refl w).drewN q)).trans ((Tch.refl g _).set 1 _))
      have HB2 : Hid (∀ q, Blk (W2 q) g #[.slice ad L.length cap, .int .i64 ((a + n : Nat) : Int), .int .i64 0] 139) := Hid.mk' (fun q => by rw [HW2.out]; have h := (HB.out.drewN q).set 1 (.int .i64 ((a : Int) + (n : Int))); simpa using h)
      have HS2 : Hid (∀ q, SB (W2 q) g d (.slice ad L.length cap) L) := Hid.mk' (fun q => HS.out.tch (HT2.out q) (.inr (Nat.le_refl _)))
      have HCV : Hid (∀ (a' : Option Addr) (cap' : Nat), (n = 0 ∨ ∀ b o, ad = some ⟨b, o, none⟩ → a' = some ⟨b, o + a, none⟩) → ∀ q k, (convert 40 9 (.slice a' n cap')).run Tryz.prog ((W2 q).drewN k) = .ok (.string (strOfNums (st.l.take n))) ((W2 q).drewN k)) := Hid.mk' (fun a' cap' ha q k => by
        have h := conv_part (g := g) (d := d) (i := a) (n := n) ((HS2.out q).ext ((Ext.refl _).drewN k)) hal a' cap' ha
        rw [HLE.out] at h; exact h)
      have HEND : Hid (∀ q k, FPost g d w (.string (strOfNums (bytesR n st).1)) (bytesR n st).2 (.returned (.string (strOfNums (st.l.take n)))) ((W2 q).drewN k)) := Hid.mk' (fun q k => by
        rw [hE.out]
        refine ⟨rfl, RF.drewN ⟨_, L, a + n, by rw [HE.out]; exact HB2.out q, HS2.out q, hal, ?_, HBI.out, HLEN.out⟩ k, (HT2.out q).drewN k⟩
        show st.l.drop n = _
        rw [if_pos HE.out, ← HLE.out, List.drop_drop])
      have hc2 : ∀ q, (W2 q).cell? ⟨g, 0, none⟩ = some (.slice ad L.length cap) ∧ (W2 q).cell? ⟨g, 1, none⟩ = some (.int .i64 ((a : Int) + (n : Int))) := fun q => ⟨(HB2.out q).cell 0, by rw [(HB2.out q).cell 1]; simp⟩
      have HC2 := Hid.mk' hc2
      clear hW2 hc2
      rcases HS.out with ⟨ad', cap', hv, -, -, hs⟩
      simp only [Value.slice.injEq] at hv
      obtain ⟨rfl, -, rfl⟩ := hv
      have hca : ¬ cap = a := by omega
      rcases hs with hs | ⟨b, o, rfl, -, -, -⟩
      · rw [hs] at hal; simp at hal; omega
      · go_enter Tryz.func117, Tryz.ntmps117
        go_upto_region 5 with (go_at_call 105; refine (HLF.out _ H.out).mono ?_; rintro e w1 ⟨rfl, q1, rfl⟩)
        rw [← HW2.out q1]
        obtain ⟨hg0, hg1⟩ := HC2.out q1
        have hcv := HCV.out (some ⟨b, o + a, none⟩) (cap - a) (.inr (fun b' o' h => by cases h; rfl)) q1
        go_quiet (fail)
        go_wp2
        go_ret
        exact HEND.out q1 nq
    · have hl0 : st.l = [] := by rw [hl, if_neg he]
      rw [hl0] at hkn
      simp at hkn
      omega

end Go.Proofs.YtibgippchdmdlaaGreat

/-
The reference's reader: numbers by sevens.
-/
namespace Go.Proofs.YtibgippchdmdlaaGreat
open Go.RowKit

theorem valL_drop_le : ∀ (k : Nat) (l : List Int), valL (l.drop k) ≤ valL l := by
  intro k
  induction k with
  | zero => intro l; simp
  | succ k ih =>
    intro l
    cases l with
    | nil => simp
    | cons x l => rw [List.drop_succ_cons, valL]; have := ih l; omega

theorem quiet_of2 {P : Program} {f : FuncId} {args : Array Value} {w : World} {q n : Nat} {v : Value}
    (h : Calls P f args (w.drewN (q + n)) fun e w' => e = .returned v ∧ ∃ m, w' = (w.drewN (q + n)).drewN m) : Calls P f args (w.drewN (q + n)) fun e w'' => e = .returned v ∧ ∃ m, w'' = w.drewN (q + m) :=
  h.mono fun _ _ ⟨he, m, hm⟩ => ⟨he, n + m, by rw [hm, World.drewN_drewN, Nat.add_assoc]⟩

def U2 (l : List Int) (n : Nat) (w : World) (v i : Value) (wr : World) : Prop := ∃ j q : Nat, j ≤ n + 1 ∧ i = .int .i64 ((j : Int) - 1) ∧ v = .int .u64 (valL ((l.take (n + 1)).drop j)) ∧ wr = w.drewN q
def UExit (l : List Int) (n : Nat) : Prop := n = 10 ∨ n = l.length ∨ (n < l.length ∧ l.getD n 0 < 128)
def ULoop (l : List Int) (w : World) (i : Value) (wr : World) : Prop := ∃ n q : Nat, n ≤ 10 ∧ n ≤ l.length ∧ i = .int .i64 n ∧ wr = w.drewN q ∧ ∀ i, i < n → 128 ≤ l.getD i 0
def UCut (l : List Int) (w : World) (i : Value) (wr : World) : Prop := ∃ n q : Nat, n ≤ 10 ∧ n ≤ l.length ∧ i = .int .i64 n ∧ wr = w.drewN q ∧ (∀ i, i < n → 128 ≤ l.getD i 0) ∧ UExit l n

set_option maxRecDepth 100000 in set_option maxHeartbeats 8000000 in
theorem fuint_any (g d : Nat) (st : RS) (m : Nat) (w : World) (h : RF w g d st) (_hm : m < 18446744073709551616) :
    Calls Tryz.prog 62 #[.pointer (some ⟨g, 0, none⟩), .int .u64 m] w (FPost g d w (.int .u64 (uintR m st).1) (uintR m st).2) := by
  have H := Hid.mk' h
  have HLF := Hid.mk' (fun w h => fleft_any g d st w h)
  have hok := h.ok
  obtain ⟨v, L, a, hb, ⟨ad, cap, rfl, hlc, hnc, hs⟩, hat, hl, hB, hlen⟩ := h
  have hc := hb.cell
  have hf := hb.frozen
  have hlt := hb.lt
  have HB := Hid.mk' hb
  have HS : Hid (SB w g d (.slice ad L.length cap) L) := Hid.mk' ⟨ad, cap, rfl, hlc, hnc, hs⟩
  have hll : st.l.length ≤ 1000000 := by rw [hl]; split <;> simp <;> omega
  have HCX : Hid (∀ n, n < st.l.length → a + n < L.length ∧ ∃ b o, ad = some ⟨b, o, none⟩ ∧ w.cell? ⟨b, o + (a + n), none⟩ = some (.int .u8 (st.l.getD n 0)) ∧ 0 ≤ st.l.getD n 0 ∧ st.l.getD n 0 < 256) := Hid.mk' (fun n hn => by
    have he : st.e = 0 := Classical.byContradiction fun he => by rw [hl, if_neg he] at hn; simp at hn
    have hl2 : st.l = L.drop a := by rw [hl, if_pos he]
    have hn2 : a + n < L.length := by rw [hl2, List.length_drop] at hn; omega
    refine ⟨hn2, ?_⟩
    rcases hs with hs | ⟨b, o, hab, hbb, hd, hcc⟩
    · rw [hs] at hn2; simp at hn2
    · have hx := hok.2 (st.l.getD n 0) (by rw [List.getD_eq_getElem?_getD, List.getElem?_eq_getElem hn]; exact List.getElem_mem hn)
      refine ⟨b, o, hab, ?_, hx⟩
      rw [hcc _ hn2]
      congr 2
      rw [hl2]; simp [List.getD])
  have HOK := Hid.mk' hok
  have HLL := Hid.mk' hl
  have HBI := Hid.mk' hB
  have HLEN := Hid.mk' hlen
  have HLC := Hid.mk' hlc
  clear hb hs hl hB hok hlc hnc hlen
  go_enter Tryz.func62, Tryz.ntmps62
  go_upto_block 0 with (fail)
  go_cut [5] (fun i wx => Hid (UCut st.l w i wx))
  case first =>
    as_aux_lemma =>
      go_wp2
      go_loopw [5] (fun i wr => ULoop st.l w i wr) (fun i _ => 10 - (intOf i).toNat)
      case atStart => exact ⟨0, 0, by omega, Nat.zero_le _, rfl, rfl, fun i h => by omega⟩
      case round =>
        obtain ⟨n, q, hn10, hnl, rfl, rfl, hb⟩ := hrel
        have HBB := Hid.mk' hb
        clear hb
        by_cases h10 : n < 10
        · by_cases hlt2 : n < st.l.length
          · obtain ⟨han, b, o, rfl, hx, hx0, hx1⟩ := HCX.out n hlt2
            have han' := HLC.out
            obtain ⟨x, hxx⟩ : ∃ x, x = st.l.getD n 0 := ⟨_, rfl⟩
            rw [← hxx] at hx hx0 hx1
            have HXX := Hid.mk' hxx
            clear hxx
            by_cases h128 : 127 < x
            · have t1 : (n : Int) < 10 := by omega
              have t2 : (n : Int) < (st.l.length : Int) := by omega
              have t3 : (0 : Int) ≤ (a : Int) + (n : Int) := by omega
              have t4 : (a : Int) + (n : Int) < (L.length : Int) := by omega
              have t5 : ((a : Int) + (n : Int)).toNat = a + n := by omega
              have t6 : IntKind.i64.wrap ((a : Int) + (n : Int)) = (a : Int) + (n : Int) := IntWalk.i64_in _ (by have := HLEN.out; omega)
              go_wp2
              go_quiet ((go_at_call 105; refine quiet_of2 (HLF.out _ (H.out.drewN _))))
              clear t1 t2 t3 t4 t5 t6
              go_wp2
              go_roundw
              case rel =>
                refine ⟨n + 1, q + nq, by omega, by omega, by go_num, by first | rfl | rw [World.drewN_drewN], fun i hi => ?_⟩
                by_cases hin : i = n
                · subst hin; rw [← HXX.out]; omega
                · exact HBB.out i (by omega)
              case measure => simp [intOf]; omega
            · have h128' : x ≤ 127 := by omega
              have d3 : decide (127 < x) = false := by simpa using h128
              clear h128
              have t1 : (n : Int) < 10 := by omega
              have t2 : (n : Int) < (st.l.length : Int) := by omega
              have t3 : (0 : Int) ≤ (a : Int) + (n : Int) := by omega
              have t4 : (a : Int) + (n : Int) < (L.length : Int) := by omega
              have t5 : ((a : Int) + (n : Int)).toNat = a + n := by omega
              have t6 : IntKind.i64.wrap ((a : Int) + (n : Int)) = (a : Int) + (n : Int) := IntWalk.i64_in _ (by have := HLEN.out; omega)
              go_wp2
              go_quiet ((go_at_call 105; refine quiet_of2 (HLF.out _ (H.out.drewN _))))
              clear t1 t2 t3 t4 t5 t6
              go_wp2
              go_meet
              case rel => exact ⟨n, q + nq, hn10, hnl, rfl, by first | rfl | rw [World.drewN_drewN], HBB.out, .inr (.inr ⟨hlt2, by rw [← HXX.out]; omega⟩)⟩
          · have hne : n = st.l.length := by omega
            have d2 : decide (n < st.l.length) = false := by simp; omega
            have t1 : (n : Int) < 10 := by omega
            have HNE := Hid.mk' hne
            clear hne hlt2
            go_wp2
            go_quiet ((go_at_call 105; refine quiet_of2 (HLF.out _ (H.out.drewN _))))
            clear d2
            go_wp2
            go_meet
            case rel => exact ⟨n, q + nq, hn10, hnl, rfl, by first | rfl | rw [World.drewN_drewN], HBB.out, .inr (.inl HNE.out)⟩
        · obtain rfl : n = 10 := by omega
          clear h10
          go_wp2
          go_quiet ((go_at_call 105; refine quiet_of2 (HLF.out _ (H.out.drewN _))))
          go_wp2
          go_meet
          case rel => exact ⟨10, q + nq, hn10, hnl, rfl, by first | rfl | rw [World.drewN_drewN], HBB.out, .inl rfl⟩
  case rest =>
    obtain ⟨n, q, hn10, hnl, rfl, rfl, hbb, hex⟩ := hcut.out
    have HBB := Hid.mk' hbb
    clear hcut hbb
    by_cases h10 : n = 10
    · subst h10
      have hE : Hid (uintR m st = (0, giveS st 5)) := Hid.mk' (by
        unfold uintR; simp only [digs_ten st.l hnl HBB.out]; rfl)
      have HG := Hid.mk' (fun w h => fgive_any g d st 5 w h (by decide))
      clear hex
      go_wp2
      go_quiet ((go_at_call 105; refine quiet_of2 (HLF.out _ (H.out.drewN _))))
      go_wp2_with (go_at_call 75; refine (HG.out _ ((H.out.drewN _))).mono ?_; rintro e w2 ⟨rfl, hr, ht⟩; have HR := Hid.mk' hr; have HT := Hid.mk' ht; clear hr ht)
      go_ret
      exact ⟨by rw [hE.out]; rfl, by rw [hE.out]; exact HR.out, (Tch.of_ext ((Ext.refl w).drewN _)).trans HT.out⟩
    · have hn9 : n ≤ 9 := by omega
      by_cases hlt2 : n < st.l.length
      · obtain ⟨han, b, o, rfl, hx, hx0, hx1⟩ := HCX.out n hlt2
        have hx128 : st.l.getD n 0 < 128 := by rcases hex with h | h | h <;> omega
        have hdig := digs_at st.l n hlt2 hn9 HBB.out hx128
        have hvm := digs_lt st.l 0 0 HOK.out.2 (by omega) (by decide)
        obtain ⟨x, hxx⟩ : ∃ x, x = st.l.getD n 0 := ⟨_, rfl⟩
        rw [← hxx] at hx hx0 hx1 hx128 hdig
        have HXX := Hid.mk' hxx
        have hlc := HLC.out
        have d3 : ((n : Int) == 10) = false := by simp; omega
        have d6 : decide (st.l.length ≤ n) = false := by simp; omega
        have d7 : (n : Int) < (st.l.length : Int) := by omega
        clear hxx hex
        by_cases c1 : n = 9 ∧ 1 < x
        · rw [if_pos c1] at hdig
          have hE : Hid (uintR m st = (0, giveS st 5)) := Hid.mk' (by unfold uintR; simp only [hdig]; rfl)
          have HG := Hid.mk' (fun w h => fgive_any g d st 5 w h (by decide))
          obtain ⟨hn, hx2⟩ := c1
          have d5 : ((n : Int) == 9) = true := by simp; omega
          clear hdig hvm hn
          have t1 : (n : Int) < (st.l.length : Int) := by omega
          have t2 : n < st.l.length := by omega
          have t3 : (0 : Int) ≤ (a : Int) + (n : Int) := by omega
          have t4 : (a : Int) + (n : Int) < (L.length : Int) := by omega
          have t5 : ((a : Int) + (n : Int)).toNat = a + n := by omega
          have t6 : IntKind.i64.wrap ((a : Int) + (n : Int)) = (a : Int) + (n : Int) := IntWalk.i64_in _ (by have := HLEN.out; omega)
          go_wp2
          go_quiet ((go_at_call 105; refine quiet_of2 (HLF.out _ (H.out.drewN _))))
          clear t1 t2 t3 t4 t5 t6
          go_wp2_with (go_at_call 75; refine (HG.out _ ((H.out.drewN _))).mono ?_; rintro e w2 ⟨rfl, hr, ht⟩; have HR := Hid.mk' hr; have HT := Hid.mk' ht; clear hr ht)
          go_ret
          exact ⟨by rw [hE.out]; rfl, by rw [hE.out]; exact HR.out, (Tch.of_ext ((Ext.refl w).drewN _)).trans HT.out⟩
        · rw [if_neg c1] at hdig
          by_cases c2 : 1 ≤ n ∧ x = 0
          · rw [if_pos c2] at hdig
            have hE : Hid (uintR m st = (0, giveS st 5)) := Hid.mk' (by unfold uintR; simp only [hdig]; rfl)
            have HG := Hid.mk' (fun w h => fgive_any g d st 5 w h (by decide))
            obtain ⟨hn1, rfl⟩ := c2
            have hn1' : (0 : Int) < (n : Int) := by omega
            have hn0n : 0 < n := by omega
            clear hdig hvm c1
            by_cases h9 : n = 9
            · have d5 : ((n : Int) == 9) = true := by simp; omega
              clear h9
              have t1 : (n : Int) < (st.l.length : Int) := by omega
              have t2 : n < st.l.length := by omega
              have t3 : (0 : Int) ≤ (a : Int) + (n : Int) := by omega
              have t4 : (a : Int) + (n : Int) < (L.length : Int) := by omega
              have t5 : ((a : Int) + (n : Int)).toNat = a + n := by omega
              have t6 : IntKind.i64.wrap ((a : Int) + (n : Int)) = (a : Int) + (n : Int) := IntWalk.i64_in _ (by have := HLEN.out; omega)
              go_wp2
              go_quiet ((go_at_call 105; refine quiet_of2 (HLF.out _ (H.out.drewN _))))
              go_wp2_with (go_at_call 105; refine (HLF.out _ (H.out.drewN _)).mono ?_; rintro e w1 ⟨rfl, q1, rfl⟩)
              go_quiet (fail)
              clear t1 t2 t3 t4 t5 t6
              go_wp2_with (go_at_call 75; refine (HG.out _ ((H.out.drewN _))).mono ?_; rintro e w2 ⟨rfl, hr, ht⟩; have HR := Hid.mk' hr; have HT := Hid.mk' ht; clear hr ht)
              go_ret
              exact ⟨by rw [hE.out]; rfl, by rw [hE.out]; exact HR.out, (Tch.of_ext ((Ext.refl w).drewN _)).trans HT.out⟩
            · have d5 : ((n : Int) == 9) = false := by simp; omega
              clear h9
              have t1 : (n : Int) < (st.l.length : Int) := by omega
              have t2 : n < st.l.length := by omega
              have t3 : (0 : Int) ≤ (a : Int) + (n : Int) := by omega
              have t4 : (a : Int) + (n : Int) < (L.length : Int) := by omega
              have t5 : ((a : Int) + (n : Int)).toNat = a + n := by omega
              have t6 : IntKind.i64.wrap ((a : Int) + (n : Int)) = (a : Int) + (n : Int) := IntWalk.i64_in _ (by have := HLEN.out; omega)
              go_wp2
              go_quiet ((go_at_call 105; refine quiet_of2 (HLF.out _ (H.out.drewN _))))
              go_wp2_with (go_at_call 105; refine (HLF.out _ (H.out.drewN _)).mono ?_; rintro e w1 ⟨rfl, q1, rfl⟩)
              go_quiet (fail)
              clear t1 t2 t3 t4 t5 t6
              go_wp2_with (go_at_call 75; refine (HG.out _ ((H.out.drewN _))).mono ?_; rintro e w2 ⟨rfl, hr, ht⟩; have HR := Hid.mk' hr; have HT := Hid.mk' ht; clear hr ht)
              go_ret
              exact ⟨by rw [hE.out]; rfl, by rw [hE.out]; exact HR.out, (Tch.of_ext ((Ext.refl w).drewN _)).trans HT.out⟩
          · rw [if_neg c2] at hdig
            rw [hdig] at hvm
            have HDG := Hid.mk' hdig
            have HVM := Hid.mk' hvm
            clear hdig hvm
            have HLT2 := Hid.mk' hlt2
            by_cases h9 : n = 9
            · have d5 : ((n : Int) == 9) = true := by simp; omega
              have hx2 : x ≤ 1 := by omega
              have hx3 : (x == 0) = false := by simp; omega
              have hx4 : decide (1 < x) = false := by simp; omega
              have hn1' : (0 : Int) < (n : Int) := by omega
              have hn0n : 0 < n := by omega
              clear h9 c1 c2
              have t1 : (n : Int) < (st.l.length : Int) := by omega
              have t2 : n < st.l.length := by omega
              have t3 : (0 : Int) ≤ (a : Int) + (n : Int) := by omega
              have t4 : (a : Int) + (n : Int) < (L.length : Int) := by omega
              have t5 : ((a : Int) + (n : Int)).toNat = a + n := by omega
              have t6 : IntKind.i64.wrap ((a : Int) + (n : Int)) = (a : Int) + (n : Int) := IntWalk.i64_in _ (by have := HLEN.out; omega)
              go_wp2
              go_quiet ((go_at_call 105; refine quiet_of2 (HLF.out _ (H.out.drewN _))))
              go_wp2_with (go_at_call 105; refine (HLF.out _ (H.out.drewN _)).mono ?_; rintro e w1 ⟨rfl, q1, rfl⟩)
              go_quiet (fail)
              clear t1 t2 t3 t4 t5 t6 d3 d5 d6 hx3 hx4
              go_wp2
              go_loopw [6, 7] (fun v i wr => U2 st.l n w v i wr) (fun _ i _ => (intOf i + 1).toNat)
              case atStart => exact ⟨n + 1, _, Nat.le_refl _, by congr 1; omega, by rw [List.drop_eq_nil_of_le (by simp; omega)]; rfl, by first | rfl | rw [World.drewN_drewN]⟩
              case round =>
                obtain ⟨j, q2, hj, rfl, rfl, rfl⟩ := hrel
                cases j with
                | succ k =>
                  obtain ⟨hak, bk, ok, hab, hxk, hk0, hk1⟩ := HCX.out k (by omega)
                  simp only [Option.some.injEq, Addr.mk.injEq, and_true] at hab
                  obtain ⟨rfl, rfl⟩ := hab
                  have e : (((k + 1 : Nat) : Int) - 1) = (k : Int) := by omega
                  rw [e]
                  clear e
                  have hd : (st.l.take (n + 1)).drop k = st.l.getD k 0 :: (st.l.take (n + 1)).drop (k + 1) := by
                    have h1 : k < (st.l.take (n + 1)).length := by simp; omega
                    rw [List.drop_eq_getElem_cons h1]
                    congr 1
                    have h2 : k < st.l.length := by omega
                    simp [List.getD, List.getElem?_eq_getElem h2]
                  have hle := valL_drop_le k (st.l.take (n + 1))
                  have hM := HVM.out
                  generalize st.l.getD k 0 = z at *
                  have HN : Hid ((valL ((st.l.take (n + 1)).drop k) : Int) = 128 * (valL ((st.l.take (n + 1)).drop (k + 1)) : Int) + z % 128) := Hid.mk' (by rw [hd, valL]; push_cast; omega)
                  have hbd : 128 * (valL ((st.l.take (n + 1)).drop (k + 1)) : Int) + z % 128 < 18446744073709551616 := by rw [← HN.out]; omega
                  generalize valL ((st.l.take (n + 1)).drop (k + 1)) = vv at *
                  clear hle hM hd
                  have s3 : (0 : Int) ≤ (a : Int) + (k : Int) := by omega
                  have s4 : (a : Int) + (k : Int) < (L.length : Int) := by omega
                  have s7 : (128 : Int) * (vv : Int) < 18446744073709551616 := by omega
                  have s8 : IntKind.u64.wrap (128 * (vv : Int)) = 128 * (vv : Int) := by rw [u64_wrap']; omega
                  have s9 : IntKind.u64.wrap (128 * (vv : Int) + z % 128) = 128 * (vv : Int) + z % 128 := by rw [u64_wrap']; omega
                  have s5 : ((a : Int) + (k : Int)).toNat = a + k := by omega
                  have s6 : IntKind.i64.wrap ((a : Int) + (k : Int)) = (a : Int) + (k : Int) := IntWalk.i64_in _ (by have := HLEN.out; omega)
                  go_wp2
                  go_quiet (fail)
                  clear s3 s4 s5 s6 s7 s8 s9
                  go_wp2
                  go_roundw
                  case rel => exact ⟨k, q2 + nq, by omega, by first | rfl | (congr 1; omega), by rw [HN.out], by first | rfl | rw [World.drewN_drewN]⟩
                  case measure => simp [intOf]
                | zero =>
                  have e : (((0 : Nat) : Int) - 1) = -1 := by omega
                  rw [e]
                  clear e
                  simp only [List.drop_zero]
                  have hM := HVM.out
                  generalize valL (st.l.take (n + 1)) = vv at *
                  have hb1 : (a : Int) + (n : Int) + 1 ≤ 2000000 := by have := HLEN.out; omega
                  by_cases hgt : m < vv
                  · have hE : Hid (uintR m st = (0, giveS st 4)) := Hid.mk' (by unfold uintR; simp only [HDG.out]; rw [if_neg (by simp), if_pos hgt])
                    have HG := Hid.mk' (fun w h => fgive_any g d st 4 w h (by decide))
                    have hgt' : (m : Int) < (vv : Int) := by omega
                    go_wp2_with (go_at_call 75; refine (HG.out _ ((H.out.drewN _))).mono ?_; rintro e w2 ⟨rfl, hr, ht⟩; have HR := Hid.mk' hr; have HT := Hid.mk' ht; clear hr ht)
                    go_ret
                    exact ⟨by rw [hE.out]; rfl, by rw [hE.out]; exact HR.out, (Tch.of_ext ((Ext.refl w).drewN _)).trans HT.out⟩
                  · have hE : Hid (uintR m st = (vv, ⟨st.l.drop (n + 1), st.e⟩)) := Hid.mk' (by unfold uintR; simp only [HDG.out]; rw [if_neg (by simp), if_neg hgt])
                    have hgt' : (vv : Int) ≤ (m : Int) := by omega
                    go_wp2
                    go_ret
                    have hT : Tch g w ((w.drewN q2).setCell ⟨g, 1, none⟩ (.int .i64 ((a : Int) + (n : Int) + 1))) := (Tch.of_ext ((Ext.refl w).drewN q2)).trans ((Tch.refl g _).set 1 _)
                    refine ⟨by rw [hE.out]; rfl, ?_, hT⟩
                    rw [hE.out]
                    have he : st.e = 0 := Classical.byContradiction fun he => by have h := HLL.out; rw [if_neg he] at h; rw [h] at hlt2; simp at hlt2
                    have hlL : st.l = L.drop a := by have h := HLL.out; rw [if_pos he] at h; exact h
                    refine ⟨_, L, a + n + 1, by have h := (HB.out.drewN q2).set 1 (.int .i64 ((a : Int) + (n : Int) + 1)); simpa using h, HS.out.tch hT (.inr (Nat.le_refl _)), by omega, ?_, HBI.out, HLEN.out⟩
                    show st.l.drop (n + 1) = if st.e = 0 then _ else _
                    rw [if_pos he, hlL, List.drop_drop, Nat.add_assoc]
            · have d5 : ((n : Int) == 9) = false := by simp; omega
              by_cases h0 : n = 0
              · have d8 : decide ((0 : Int) < (n : Int)) = false := by simp; omega
                have d9 : decide (0 < n) = false := by simp; omega
                clear h9 c1 c2 h0
                have t1 : (n : Int) < (st.l.length : Int) := by omega
                have t2 : n < st.l.length := by omega
                have t3 : (0 : Int) ≤ (a : Int) + (n : Int) := by omega
                have t4 : (a : Int) + (n : Int) < (L.length : Int) := by omega
                have t5 : ((a : Int) + (n : Int)).toNat = a + n := by omega
                have t6 : IntKind.i64.wrap ((a : Int) + (n : Int)) = (a : Int) + (n : Int) := IntWalk.i64_in _ (by have := HLEN.out; omega)
                go_wp2
                go_quiet ((go_at_call 105; refine quiet_of2 (HLF.out _ (H.out.drewN _))))
                go_wp2_with (go_at_call 105; refine (HLF.out _ (H.out.drewN _)).mono ?_; rintro e w1 ⟨rfl, q1, rfl⟩)
                go_quiet (fail)
                clear t1 t2 t3 t4 t5 t6 d3 d5 d6 d8 d9
                go_wp2
                go_loopw [6, 7] (fun v i wr => U2 st.l n w v i wr) (fun _ i _ => (intOf i + 1).toNat)
                case atStart => exact ⟨n + 1, _, Nat.le_refl _, by congr 1; omega, by rw [List.drop_eq_nil_of_le (by simp; omega)]; rfl, by first | rfl | rw [World.drewN_drewN]⟩
                case round =>
                  obtain ⟨j, q2, hj, rfl, rfl, rfl⟩ := hrel
                  cases j with
                  | succ k =>
                    obtain ⟨hak, bk, ok, hab, hxk, hk0, hk1⟩ := HCX.out k (by omega)
                    simp only [Option.some.injEq, Addr.mk.injEq, and_true] at hab
                    obtain ⟨rfl, rfl⟩ := hab
                    have e : (((k + 1 : Nat) : Int) - 1) = (k : Int) := by omega
                    rw [e]
                    clear e
                    have hd : (st.l.take (n + 1)).drop k = st.l.getD k 0 :: (st.l.take (n + 1)).drop (k + 1) := by
                      have h1 : k < (st.l.take (n + 1)).length := by simp; omega
                      rw [List.drop_eq_getElem_cons h1]
                      congr 1
                      have h2 : k < st.l.length := by omega
                      simp [List.getD, List.getElem?_eq_getElem h2]
                    have hle := valL_drop_le k (st.l.take (n + 1))
                    have hM := HVM.out
                    generalize st.l.getD k 0 = z at *
                    have HN : Hid ((valL ((st.l.take (n + 1)).drop k) : Int) = 128 * (valL ((st.l.take (n + 1)).drop (k + 1)) : Int) + z % 128) := Hid.mk' (by rw [hd, valL]; push_cast; omega)
                    have hbd : 128 * (valL ((st.l.take (n + 1)).drop (k + 1)) : Int) + z % 128 < 18446744073709551616 := by rw [← HN.out]; omega
                    generalize valL ((st.l.take (n + 1)).drop (k + 1)) = vv at *
                    clear hle hM hd
                    have s3 : (0 : Int) ≤ (a : Int) + (k : Int) := by omega
                    have s4 : (a : Int) + (k : Int) < (L.length : Int) := by omega
                    have s7 : (128 : Int) * (vv : Int) < 18446744073709551616 := by omega
                    have s8 : IntKind.u64.wrap (128 * (vv : Int)) = 128 * (vv : Int) := by rw [u64_wrap']; omega
                    have s9 : IntKind.u64.wrap (128 * (vv : Int) + z % 128) = 128 * (vv : Int) + z % 128 := by rw [u64_wrap']; omega
                    have s5 : ((a : Int) + (k : Int)).toNat = a + k := by omega
                    have s6 : IntKind.i64.wrap ((a : Int) + (k : Int)) = (a : Int) + (k : Int) := IntWalk.i64_in _ (by have := HLEN.out; omega)
                    go_wp2
                    go_quiet (fail)
                    clear s3 s4 s5 s6 s7 s8 s9
                    go_wp2
                    go_roundw
                    case rel => exact ⟨k, q2 + nq, by omega, by first | rfl | (congr 1; omega), by rw [HN.out], by first | rfl | rw [World.drewN_drewN]⟩
                    case measure => simp [intOf]
                  | zero =>
                    have e : (((0 : Nat) : Int) - 1) = -1 := by omega
                    rw [e]
                    clear e
                    simp only [List.drop_zero]
                    have hM := HVM.out
                    generalize valL (st.l.take (n + 1)) = vv at *
                    have hb1 : (a : Int) + (n : Int) + 1 ≤ 2000000 := by have := HLEN.out; omega
                    by_cases hgt : m < vv
                    · have hE : Hid (uintR m st = (0, giveS st 4)) := Hid.mk' (by unfold uintR; simp only [HDG.out]; rw [if_neg (by simp), if_pos hgt])
                      have HG := Hid.mk' (fun w h => fgive_any g d st 4 w h (by decide))
                      have hgt' : (m : Int) < (vv : Int) := by omega
                      go_wp2_with (go_at_call 75; refine (HG.out _ ((H.out.drewN _))).mono ?_; rintro e w2 ⟨rfl, hr, ht⟩; have HR := Hid.mk' hr; have HT := Hid.mk' ht; clear hr ht)
                      go_ret
                      exact ⟨by rw [hE.out]; rfl, by rw [hE.out]; exact HR.out, (Tch.of_ext ((Ext.refl w).drewN _)).trans HT.out⟩
                    · have hE : Hid (uintR m st = (vv, ⟨st.l.drop (n + 1), st.e⟩)) := Hid.mk' (by unfold uintR; simp only [HDG.out]; rw [if_neg (by simp), if_neg hgt])
                      have hgt' : (vv : Int) ≤ (m : Int) := by omega
                      go_wp2
                      go_ret
                      have hT : Tch g w ((w.drewN q2).setCell ⟨g, 1, none⟩ (.int .i64 ((a : Int) + (n : Int) + 1))) := (Tch.of_ext ((Ext.refl w).drewN q2)).trans ((Tch.refl g _).set 1 _)
                      refine ⟨by rw [hE.out]; rfl, ?_, hT⟩
                      rw [hE.out]
                      have he : st.e = 0 := Classical.byContradiction fun he => by have h := HLL.out; rw [if_neg he] at h; rw [h] at hlt2; simp at hlt2
                      have hlL : st.l = L.drop a := by have h := HLL.out; rw [if_pos he] at h; exact h
                      refine ⟨_, L, a + n + 1, by have h := (HB.out.drewN q2).set 1 (.int .i64 ((a : Int) + (n : Int) + 1)); simpa using h, HS.out.tch hT (.inr (Nat.le_refl _)), by omega, ?_, HBI.out, HLEN.out⟩
                      show st.l.drop (n + 1) = if st.e = 0 then _ else _
                      rw [if_pos he, hlL, List.drop_drop, Nat.add_assoc]
              · have hx3 : (x == 0) = false := by simp; omega
                have hn1' : (0 : Int) < (n : Int) := by omega
                have hn0n : 0 < n := by omega
                clear h9 c1 c2 h0
                have t1 : (n : Int) < (st.l.length : Int) := by omega
                have t2 : n < st.l.length := by omega
                have t3 : (0 : Int) ≤ (a : Int) + (n : Int) := by omega
                have t4 : (a : Int) + (n : Int) < (L.length : Int) := by omega
                have t5 : ((a : Int) + (n : Int)).toNat = a + n := by omega
                have t6 : IntKind.i64.wrap ((a : Int) + (n : Int)) = (a : Int) + (n : Int) := IntWalk.i64_in _ (by have := HLEN.out; omega)
                go_wp2
                go_quiet ((go_at_call 105; refine quiet_of2 (HLF.out _ (H.out.drewN _))))
                go_wp2_with (go_at_call 105; refine (HLF.out _ (H.out.drewN _)).mono ?_; rintro e w1 ⟨rfl, q1, rfl⟩)
                go_quiet (fail)
                clear t1 t2 t3 t4 t5 t6 d3 d5 d6 hx3
                go_wp2
                go_loopw [6, 7] (fun v i wr => U2 st.l n w v i wr) (fun _ i _ => (intOf i + 1).toNat)
                case atStart => exact ⟨n + 1, _, Nat.le_refl _, by congr 1; omega, by rw [List.drop_eq_nil_of_le (by simp; omega)]; rfl, by first | rfl | rw [World.drewN_drewN]⟩
                case round =>
                  obtain ⟨j, q2, hj, rfl, rfl, rfl⟩ := hrel
                  cases j with
                  | succ k =>
                    obtain ⟨hak, bk, ok, hab, hxk, hk0, hk1⟩ := HCX.out k (by omega)
                    simp only [Option.some.injEq, Addr.mk.injEq, and_true] at hab
                    obtain ⟨rfl, rfl⟩ := hab
                    have e : (((k + 1 : Nat) : Int) - 1) = (k : Int) := by omega
                    rw [e]
                    clear e
                    have hd : (st.l.take (n + 1)).drop k = st.l.getD k 0 :: (st.l.take (n + 1)).drop (k + 1) := by
                      have h1 : k < (st.l.take (n + 1)).length := by simp; omega
                      rw [List.drop_eq_getElem_cons h1]
                      congr 1
                      have h2 : k < st.l.length := by omega
                      simp [List.getD, List.getElem?_eq_getElem h2]
                    have hle := valL_drop_le k (st.l.take (n + 1))
                    have hM := HVM.out
                    generalize st.l.getD k 0 = z at *
                    have HN : Hid ((valL ((st.l.take (n + 1)).drop k) : Int) = 128 * (valL ((st.l.take (n + 1)).drop (k + 1)) : Int) + z % 128) := Hid.mk' (by rw [hd, valL]; push_cast; omega)
                    have hbd : 128 * (valL ((st.l.take (n + 1)).drop (k + 1)) : Int) + z % 128 < 18446744073709551616 := by rw [← HN.out]; omega
                    generalize valL ((st.l.take (n + 1)).drop (k + 1)) = vv at *
                    clear hle hM hd
                    have s3 : (0 : Int) ≤ (a : Int) + (k : Int) := by omega
                    have s4 : (a : Int) + (k : Int) < (L.length : Int) := by omega
                    have s7 : (128 : Int) * (vv : Int) < 18446744073709551616 := by omega
                    have s8 : IntKind.u64.wrap (128 * (vv : Int)) = 128 * (vv : Int) := by rw [u64_wrap']; omega
                    have s9 : IntKind.u64.wrap (128 * (vv : Int) + z % 128) = 128 * (vv : Int) + z % 128 := by rw [u64_wrap']; omega
                    have s5 : ((a : Int) + (k : Int)).toNat = a + k := by omega
                    have s6 : IntKind.i64.wrap ((a : Int) + (k : Int)) = (a : Int) + (k : Int) := IntWalk.i64_in _ (by have := HLEN.out; omega)
                    go_wp2
                    go_quiet (fail)
                    clear s3 s4 s5 s6 s7 s8 s9
                    go_wp2
                    go_roundw
                    case rel => exact ⟨k, q2 + nq, by omega, by first | rfl | (congr 1; omega), by rw [HN.out], by first | rfl | rw [World.drewN_drewN]⟩
                    case measure => simp [intOf]
                  | zero =>
                    have e : (((0 : Nat) : Int) - 1) = -1 := by omega
                    rw [e]
                    clear e
                    simp only [List.drop_zero]
                    have hM := HVM.out
                    generalize valL (st.l.take (n + 1)) = vv at *
                    have hb1 : (a : Int) + (n : Int) + 1 ≤ 2000000 := by have := HLEN.out; omega
                    by_cases hgt : m < vv
                    · have hE : Hid (uintR m st = (0, giveS st 4)) := Hid.mk' (by unfold uintR; simp only [HDG.out]; rw [if_neg (by simp), if_pos hgt])
                      have HG := Hid.mk' (fun w h => fgive_any g d st 4 w h (by decide))
                      have hgt' : (m : Int) < (vv : Int) := by omega
                      go_wp2_with (go_at_call 75; refine (HG.out _ ((H.out.drewN _))).mono ?_; rintro e w2 ⟨rfl, hr, ht⟩; have HR := Hid.mk' hr; have HT := Hid.mk' ht; clear hr ht)
                      go_ret
                      exact ⟨by rw [hE.out]; rfl, by rw [hE.out]; exact HR.out, (Tch.of_ext ((Ext.refl w).drewN _)).trans HT.out⟩
                    · have hE : Hid (uintR m st = (vv, ⟨st.l.drop (n + 1), st.e⟩)) := Hid.mk' (by unfold uintR; simp only [HDG.out]; rw [if_neg (by simp), if_neg hgt])
                      have hgt' : (vv : Int) ≤ (m : Int) := by omega
                      go_wp2
                      go_ret
                      have hT : Tch g w ((w.drewN q2).setCell ⟨g, 1, none⟩ (.int .i64 ((a : Int) + (n : Int) + 1))) := (Tch.of_ext ((Ext.refl w).drewN q2)).trans ((Tch.refl g _).set 1 _)
                      refine ⟨by rw [hE.out]; rfl, ?_, hT⟩
                      rw [hE.out]
                      have he : st.e = 0 := Classical.byContradiction fun he => by have h := HLL.out; rw [if_neg he] at h; rw [h] at hlt2; simp at hlt2
                      have hlL : st.l = L.drop a := by have h := HLL.out; rw [if_pos he] at h; exact h
                      refine ⟨_, L, a + n + 1, by have h := (HB.out.drewN q2).set 1 (.int .i64 ((a : Int) + (n : Int) + 1)); simpa using h, HS.out.tch hT (.inr (Nat.le_refl _)), by omega, ?_, HBI.out, HLEN.out⟩
                      show st.l.drop (n + 1) = if st.e = 0 then _ else _
                      rw [if_pos he, hlL, List.drop_drop, Nat.add_assoc]
      · have hne : n = st.l.length := by omega
        have hE : Hid (uintR m st = (0, giveS st 1)) := Hid.mk' (by
          unfold uintR; simp only [digs_short st.l n hne hn9 HBB.out]; rfl)
        have HG := Hid.mk' (fun w h => fgive_any g d st 1 w h (by decide))
        have d2 : decide (n < st.l.length) = false := by simp; omega
        have d3 : ((n : Int) == 10) = false := by simp; omega
        have hge : (st.l.length : Int) ≤ (n : Int) := by omega
        have d4 : decide (st.l.length ≤ n) = true := by simp; omega
        clear hex hne hlt2 h10
        by_cases h9 : n = 9
        · have d5 : ((n : Int) == 9) = true := by simp; omega
          clear h9
          go_wp2
          go_quiet ((go_at_call 105; refine quiet_of2 (HLF.out _ (H.out.drewN _))))
          go_wp2_with (first
            | (go_at_call 105; refine (HLF.out _ (H.out.drewN _)).mono ?_; rintro e w1 ⟨rfl, q1, rfl⟩)
            | (go_at_call 75; refine (HG.out _ ((H.out.drewN _))).mono ?_; rintro e w2 ⟨rfl, hr, ht⟩; have HR := Hid.mk' hr; have HT := Hid.mk' ht; clear hr ht))
          go_ret
          exact ⟨by rw [hE.out]; rfl, by rw [hE.out]; exact HR.out, (Tch.of_ext ((Ext.refl w).drewN _)).trans HT.out⟩
        · have d5 : ((n : Int) == 9) = false := by simp; omega
          clear h9
          go_wp2
          go_quiet ((go_at_call 105; refine quiet_of2 (HLF.out _ (H.out.drewN _))))
          go_wp2_with (first
            | (go_at_call 105; refine (HLF.out _ (H.out.drewN _)).mono ?_; rintro e w1 ⟨rfl, q1, rfl⟩)
            | (go_at_call 75; refine (HG.out _ ((H.out.drewN _))).mono ?_; rintro e w2 ⟨rfl, hr, ht⟩; have HR := Hid.mk' hr; have HT := Hid.mk' ht; clear hr ht))
          go_ret
          exact ⟨by rw [hE.out]; rfl, by rw [hE.out]; exact HR.out, (Tch.of_ext ((Ext.refl w).drewN _)).trans HT.out⟩

end Go.Proofs.YtibgippchdmdlaaGreat

/-
The reference's reader: numbers with a sign, texts, bytes, words.
-/
namespace Go.Proofs.YtibgippchdmdlaaGreat
open Go.RowKit

set_option maxRecDepth 100000 in set_option maxHeartbeats 1600000 in
theorem zag_any (n : Nat) (w : World) (hn : n < 2 ^ 64) :
    Calls Tryz.prog 226 #[.int .u64 n] w fun e w' => e = .returned (.int .i64 (zag n)) ∧ w = w' := by
  by_cases h : n % 2 = 1
  · have HZ : Hid (zag n = -((n : Int) / 2) - 1) := Hid.mk' (by unfold zag; rw [if_pos h]; omega)
    have h1 : (n : Int) % 2 = 1 := by omega
    go_enter Tryz.func226, Tryz.ntmps226
    go_wp2
    go_ret
    exact ⟨ret_int (by rw [HZ.out]), rfl⟩
  · have HZ : Hid (zag n = (n : Int) / 2) := Hid.mk' (by unfold zag; rw [if_neg h]; omega)
    have h1 : (n : Int) % 2 = 0 := by omega
    go_enter Tryz.func226, Tryz.ntmps226
    go_wp2
    go_ret
    exact ⟨ret_int (by rw [HZ.out]), rfl⟩

set_option maxRecDepth 100000 in set_option maxHeartbeats 1600000 in
theorem fint_any (g d : Nat) (st : RS) (w : World) (h : RF w g d st) :
    Calls Tryz.prog 218 #[.pointer (some ⟨g, 0, none⟩)] w (FPost g d w (.int .i64 (intR st).1) (intR st).2) := by
  have H := Hid.mk' h
  have HU := Hid.mk' (fun w h => fuint_any g d st 18446744073709551615 w h (by omega))
  have hle := uintR_le (st := st) 18446744073709551615
  unfold intR
  simp only
  generalize uintR 18446744073709551615 st = U at *
  obtain ⟨n, st1⟩ := U
  simp only at *
  have HL : Hid (n < 2 ^ 64) := Hid.mk' (by omega)
  clear h
  go_enter Tryz.func218, Tryz.ntmps218
  go_wp2_with (first
    | (go_at_call 62; refine (HU.out _ H.out).mono ?_; rintro e w1 ⟨rfl, hr, ht⟩; have HR := Hid.mk' hr; have HT := Hid.mk' ht; clear hr ht)
    | (go_at_call 226; refine (zag_any n _ HL.out).mono ?_; rintro e w2 ⟨rfl, rfl⟩))
  go_ret
  exact ⟨rfl, HR.out, HT.out⟩

set_option maxRecDepth 100000 in set_option maxHeartbeats 1600000 in
theorem ftext_any (g d : Nat) (st : RS) (m : Nat) (w : World) (h : RF w g d st) (hm : m ≤ 1000000) :
    Calls Tryz.prog 193 #[.pointer (some ⟨g, 0, none⟩), .int .i64 m] w (FPost g d w (.string (strOfNums (textR m st).1)) (textR m st).2) := by
  have H := Hid.mk' h
  have HU := Hid.mk' (fun w h => fuint_any g d st m w h (by omega))
  have hle := uintR_le (st := st) m
  unfold textR
  simp only
  generalize uintR m st = U at *
  obtain ⟨n, st1⟩ := U
  simp only at *
  have HB := Hid.mk' (fun w h => fbytes_any g d st1 n w h (by omega))
  have hm0 : (0 : Int) ≤ (m : Int) := by omega
  clear h
  go_enter Tryz.func193, Tryz.ntmps193
  go_wp2_with (first
    | (go_at_call 62; refine (HU.out _ H.out).mono ?_; rintro e w1 ⟨rfl, hr, ht⟩; have HR := Hid.mk' hr; have HT := Hid.mk' ht; clear hr ht)
    | (go_at_call 117; refine (HB.out _ HR.out).mono ?_; rintro e w2 ⟨rfl, hr2, ht2⟩; have HR2 := Hid.mk' hr2; have HT2 := Hid.mk' ht2; clear hr2 ht2))
  go_ret
  exact ⟨rfl, HR2.out, HT.out.trans HT2.out⟩

theorem strOf_get {l : List Int} (hb : isB l) {k : Nat} (hk : k < (strOfNums l).size) : ((strOfNums l)[k].toNat : Int) = l.getD k 0 := by
  have hk2 : k < l.length := by rwa [strOfNums_size] at hk
  have h : (strOfNums l)[k] = UInt8.ofNat (l[k]).toNat := by
    show (strOfNums l).data[k] = _
    simp [strOfNums]
  rw [h]
  have := hb l[k] (List.getElem_mem hk2)
  simp only [UInt8.toNat_ofNat', List.getD, List.getElem?_eq_getElem hk2, Option.getD_some]
  omega

set_option maxRecDepth 100000 in set_option maxHeartbeats 1600000 in
theorem fbyte_any (g d : Nat) (st : RS) (w : World) (h : RF w g d st) :
    Calls Tryz.prog 73 #[.pointer (some ⟨g, 0, none⟩)] w (FPost g d w (.int .u8 (byteR st).1) (byteR st).2) := by
  have H := Hid.mk' h
  have hok := h.ok
  have HB := Hid.mk' (fun w h => fbytes_any g d st 1 w h (by omega))
  have hib := bytesR_isB hok 1
  have hln : (bytesR 1 st).1.length ≤ 1 := by unfold bytesR; split <;> simp; omega
  unfold byteR
  simp only
  generalize bytesR 1 st = U at *
  obtain ⟨L, st1⟩ := U
  simp only at *
  clear h hok
  cases L with
  | nil =>
    have e : strOfNums [] = ByteArray.empty := rfl
    rw [e] at HB
    clear e
    go_enter Tryz.func73, Tryz.ntmps73
    go_wp2_with (go_at_call 117; refine (HB.out _ H.out).mono ?_; rintro e w2 ⟨rfl, hr2, ht2⟩; have HR2 := Hid.mk' hr2; have HT2 := Hid.mk' ht2; clear hr2 ht2)
    go_ret
    exact ⟨rfl, HR2.out, HT2.out⟩
  | cons x L =>
    have hL : L = [] := by cases L with | nil => rfl | cons y L => simp at hln
    subst hL
    have h0 := hib.head
    obtain ⟨s, hs⟩ : ∃ s, s = strOfNums [x] := ⟨_, rfl⟩
    have h1 : s.size = 1 := by rw [hs, strOfNums_size]; rfl
    have h2 : (s[0].toNat : Int) = x := by
      have hh : ∀ (t : ByteArray) (h : 0 < t.size), t = strOfNums [x] → (t[0].toNat : Int) = x := by
        rintro t h rfl; exact strOf_get hib h
      exact hh s (by omega) hs
    have h3 : s.toList ≠ [] := by
      intro h
      have : s.data.toList = [] := by rw [← ByteArray.toList_eq]; exact h
      have h4 : s.data.toList.length = s.size := by simp
      rw [this] at h4; simp at h4; omega
    rw [← hs] at HB
    clear hs hib hln
    have h5 : s.toList.isEmpty = false := by cases h : s.toList with | nil => exact absurd h h3 | cons a b => rfl
    have h6 : (s.toList == []) = false := by cases h : s.toList with | nil => exact absurd h h3 | cons a b => rfl
    clear h3
    go_enter Tryz.func73, Tryz.ntmps73
    go_wp2_with (go_at_call 117; refine (HB.out _ H.out).mono ?_; rintro e w2 ⟨rfl, hr2, ht2⟩; have HR2 := Hid.mk' hr2; have HT2 := Hid.mk' ht2; clear hr2 ht2)
    go_ret
    exact ⟨ret_int (by first | exact h2 | simp | rfl), HR2.out, HT2.out⟩

end Go.Proofs.YtibgippchdmdlaaGreat

/-
The reference's reader: words; floats and parts.
-/
namespace Go.Proofs.YtibgippchdmdlaaGreat
open Go.RowKit

theorem ofBytes_drop_le : ∀ (k : Nat) (l : List Int), ofBytes (l.drop k) ≤ ofBytes l := by
  intro k
  induction k with
  | zero => intro l; simp
  | succ k ih =>
    intro l
    cases l with
    | nil => simp
    | cons x l => rw [List.drop_succ_cons, ofBytes]; have := ih l; omega

set_option maxRecDepth 100000 in set_option maxHeartbeats 1600000 in
theorem fword_any (g d : Nat) (st : RS) (w : World) (h : RF w g d st) :
    Calls Tryz.prog 217 #[.pointer (some ⟨g, 0, none⟩)] w (FPost g d w (.int .u64 (wordR st).1) (wordR st).2) := by
  have H := Hid.mk' h
  have hok := h.ok
  have HB := Hid.mk' (fun w h => fbytes_any g d st 8 w h (by omega))
  have hib := bytesR_isB hok 8
  have hln : (bytesR 8 st).1.length ≤ 8 := by unfold bytesR; split <;> simp <;> omega
  have hlt := ofBytes_lt64 hib hln
  unfold wordR
  simp only
  generalize bytesR 8 st = U at *
  obtain ⟨L, st1⟩ := U
  simp only at *
  obtain ⟨s, hs⟩ : ∃ s, s = strOfNums L := ⟨_, rfl⟩
  have hsz : s.size = L.length := by rw [hs, strOfNums_size]
  have HG : Hid (∀ (k : Nat) (h : k < s.size), (s[k].toNat : Int) = L.getD k 0) := Hid.mk' (by subst hs; exact fun k h => strOf_get hib h)
  rw [← hs] at HB
  have HSZ := Hid.mk' hsz
  have HIB := Hid.mk' hib
  have hs8 : s.size ≤ 8 := by omega
  have HLT := Hid.mk' hlt
  clear h hok hs hib hsz hlt
  go_enter Tryz.func217, Tryz.ntmps217
  go_wp2_with (go_at_call 117; refine (HB.out _ H.out).mono ?_; rintro e w2 ⟨rfl, hr2, ht2⟩; have HR2 := Hid.mk' hr2; have HT2 := Hid.mk' ht2; clear hr2 ht2)
  go_loop [4, 5] (fun v i => ∃ j : Nat, j ≤ s.size ∧ i = .int .i64 ((j : Int) - 1) ∧ v = .int .u64 (ofBytes (L.drop j))) (fun _ i => (intOf i + 1).toNat)
  case atStart => exact ⟨s.size, Nat.le_refl _, rfl, by rw [HSZ.out, List.drop_length]; rfl⟩
  case round =>
    obtain ⟨j, hj, rfl, rfl⟩ := hrel
    cases j with
    | succ k =>
      have e : (((k + 1 : Nat) : Int) - 1) = (k : Int) := by omega
      rw [e]
      clear e
      have hks : k < s.size := by omega
      have hkl : k < L.length := by rw [← HSZ.out]; exact hks
      have hx := HG.out k hks
      have hx0 := HIB.out (L.getD k 0) (by rw [List.getD_eq_getElem?_getD, List.getElem?_eq_getElem hkl]; exact List.getElem_mem hkl)
      have hd : L.drop k = L.getD k 0 :: L.drop (k + 1) := by
        rw [List.drop_eq_getElem_cons hkl]; simp [List.getD, List.getElem?_eq_getElem hkl]
      have hle := ofBytes_drop_le k L
      have hM := HLT.out
      have HN : Hid ((ofBytes (L.drop k) : Int) = 256 * (ofBytes (L.drop (k + 1)) : Int) + (s[k].toNat : Int)) := Hid.mk' (by rw [hx, hd, ofBytes]; push_cast; omega)
      have hbd : 256 * (ofBytes (L.drop (k + 1)) : Int) + (s[k].toNat : Int) < 18446744073709551616 := by rw [← HN.out]; omega
      clear hx hx0 hd hle hM hkl
      generalize ofBytes (L.drop (k + 1)) = vv at *
      have hb0 : (s[k].toNat : Int) < 256 := by have := s[k].toNat_lt; omega
      go_wp2
      go_round
      case rel => exact ⟨k, by omega, rfl, by rw [HN.out]⟩
      case measure => simp [intOf]
    | zero =>
      have e : (((0 : Nat) : Int) - 1) = -1 := by omega
      rw [e]
      clear e
      simp only [List.drop_zero]
      go_wp2
      go_ret
      exact ⟨rfl, HR2.out, HT2.out⟩

set_option maxRecDepth 100000 in set_option maxHeartbeats 1600000 in
theorem ftf_any (g d : Nat) (st : RS) (ver : Int) (w : World) (h : RF w g d st) :
    Calls Tryz.prog 219 #[.pointer (some ⟨g, 0, none⟩), .int .u8 ver] w (FPost g d w (.int .u64 (floatR ver st).1) (floatR ver st).2) := by
  have H := Hid.mk' h
  by_cases h1 : ver = 1
  · have HW := Hid.mk' (fun w h => fword_any g d st w h)
    subst h1
    unfold floatR
    rw [if_pos rfl]
    clear h
    go_enter Tryz.func219, Tryz.ntmps219
    go_wp2_with (go_at_call 217; refine (HW.out _ H.out).mono ?_; rintro e w1 ⟨rfl, hr, ht⟩; have HR := Hid.mk' hr; have HT := Hid.mk' ht; clear hr ht)
    go_ret
    exact ⟨rfl, HR.out, HT.out⟩
  · have HU := Hid.mk' (fun w h => fuint_any g d st 18446744073709551615 w h (by omega))
    have hle := uintR_le (st := st) 18446744073709551615
    unfold floatR
    rw [if_neg h1]
    simp only
    generalize uintR 18446744073709551615 st = U at *
    obtain ⟨n, st1⟩ := U
    simp only at *
    have HL : Hid (n < 2 ^ 64) := Hid.mk' (by omega)
    clear h
    go_enter Tryz.func219, Tryz.ntmps219
    go_wp2_with (first
      | (go_at_call 62; refine (HU.out _ H.out).mono ?_; rintro e w1 ⟨rfl, hr, ht⟩; have HR := Hid.mk' hr; have HT := Hid.mk' ht; clear hr ht)
      | (go_at_call 209; refine (rturned_any n _ HL.out).mono ?_; rintro e w2 ⟨rfl, hb2⟩; have HR2 := Hid.mk' (HR.out.ext hb2); have HT2 := Hid.mk' (HT.out.trans (Tch.of_ext hb2)); clear hb2))
    go_ret
    exact ⟨rfl, HR2.out, HT2.out⟩

set_option maxRecDepth 100000 in set_option maxHeartbeats 1600000 in
theorem fpart_any (g d : Nat) (st : RS) (t : Bool) (w : World) (h : RF w g d st) :
    Calls Tryz.prog 220 #[.pointer (some ⟨g, 0, none⟩), .bool t] w (FPost g d w (.int .u64 (partR t st).1) (partR t st).2) := by
  have H := Hid.mk' h
  clear h
  cases t with
  | false =>
    go_enter Tryz.func220, Tryz.ntmps220
    go_wp2
    go_ret
    exact ⟨rfl, H.out, Tch.refl g w⟩
  | true =>
    have HF := Hid.mk' (fun w h => ftf_any g d st 2 w h)
    unfold partR
    rw [if_pos rfl]
    simp only
    generalize floatR 2 st = U at *
    obtain ⟨x, st1⟩ := U
    simp only at *
    have HG := Hid.mk' (fun w h => fgive_any g d st1 3 w h (by decide))
    by_cases x0 : x = 0
    · subst x0
      go_enter Tryz.func220, Tryz.ntmps220
      go_wp2_with (first
        | (go_at_call 219; refine (HF.out _ H.out).mono ?_; rintro e w1 ⟨rfl, hr, ht⟩; have HR := Hid.mk' hr; have HT := Hid.mk' ht; clear hr ht)
        | (go_at_call 75; refine (HG.out _ HR.out).mono ?_; rintro e w2 ⟨rfl, hr2, ht2⟩; have HR2 := Hid.mk' hr2; have HT2 := Hid.mk' ht2; clear hr2 ht2))
      go_ret
      exact ⟨rfl, HR2.out, HT.out.trans HT2.out⟩
    · have x1 : ((x : Int) == 0) = false := by simpa using x0
      have X0 := Hid.mk' x0
      clear x0
      go_enter Tryz.func220, Tryz.ntmps220
      go_wp2_with (first
        | (go_at_call 219; refine (HF.out _ H.out).mono ?_; rintro e w1 ⟨rfl, hr, ht⟩; have HR := Hid.mk' hr; have HT := Hid.mk' ht; clear hr ht))
      go_ret
      exact ⟨rfl, by first | exact HR.out | (rw [if_neg X0.out]; exact HR.out), HT.out⟩

end Go.Proofs.YtibgippchdmdlaaGreat

/-
What a begin's, a commit's payload tells: the program's answer, the reference's.
-/
namespace Go.Proofs.YtibgippchdmdlaaGreat
open Go.RowKit

def tkB (l : List Int) : Nat × Nat × Int :=
  let a := uintR 4294967295 ⟨l, 0⟩
  let b := uintR 18446744073709551615 a.2
  if endE b.2 ≠ 0 then (0, 0, endE b.2) else if a.1 = 0 then (0, 0, 4) else (a.1, b.1, 0)
def tkC (l : List Int) : Nat × Nat × Int :=
  let a := uintR 4294967295 ⟨l, 0⟩
  let b := uintR 512 a.2
  if endE b.2 ≠ 0 then (0, 0, endE b.2) else (a.1, b.1, 0)

set_option maxRecDepth 100000 in set_option maxHeartbeats 1600000 in
theorem number_any (g d : Nat) (st : RS) (w : World) (h : RD w g d st) :
    Calls Tryz.prog 59 #[.pointer (some ⟨g, 0, none⟩)] w (RPost g d w (.int .u32 (uintR 4294967295 st).1) (uintR 4294967295 st).2) := by
  have HU := Hid.mk' (ruint2_any g d st 4294967295 w h (by decide))
  have hle := uintR_le (st := st) 4294967295
  have hwr : IntKind.u32.wrap ((uintR 4294967295 st).1 : Int) = ((uintR 4294967295 st).1 : Int) := by
    simp [IntKind.wrap, IntKind.signed, IntKind.bits]; omega
  unfold RPost at HU ⊢
  obtain ⟨X, hX⟩ : ∃ X, X = (uintR 4294967295 st).1 := ⟨_, rfl⟩
  rw [← hX] at HU hwr hle ⊢
  clear hX
  go_enter Tryz.func59, Tryz.ntmps59
  go_wp2_with (go_at_call 60; refine HU.out.mono ?_; rintro e w1 ⟨rfl, h1, h2⟩; have H1 := Hid.mk' h1; have H2 := Hid.mk' h2; clear h1 h2)
  go_ret
  exact ⟨ret_int (by first | rfl | exact hwr), H1.out, H2.out⟩

set_option maxRecDepth 100000 in set_option maxHeartbeats 2000000 in
theorem ptbegin_any (v : Value) (l : List Int) (w : World) (hl : Sl w v 1 (l.map bcell)) (hlen : l.length ≤ 1000) (hb : isB l) :
    Calls Tryz.prog 18 #[v] w fun e w' => e = .returned (.tuple #[.int .u32 (tkB l).1, .int .u64 (tkB l).2.1, .int .i64 (tkB l).2.2]) ∧ Ext w w' := by
  have HRD := Hid.mk' (read_any v l w hl (by omega) hb)
  have HT : Hid (tkB l = if endE (uintR 18446744073709551615 (uintR 4294967295 ⟨l, 0⟩).2).2 ≠ 0 then (0, 0, endE (uintR 18446744073709551615 (uintR 4294967295 ⟨l, 0⟩).2).2) else if (uintR 4294967295 ⟨l, 0⟩).1 = 0 then (0, 0, 4) else ((uintR 4294967295 ⟨l, 0⟩).1, (uintR 18446744073709551615 (uintR 4294967295 ⟨l, 0⟩).2).1, 0)) := Hid.mk' rfl
  have HN := Hid.mk' (fun g d W (h : RD W g d ⟨l, 0⟩) => number_any g d ⟨l, 0⟩ W h)
  have HU := Hid.mk' (fun g d W (h : RD W g d (uintR 4294967295 ⟨l, 0⟩).2) => ruint2_any g d (uintR 4294967295 ⟨l, 0⟩).2 18446744073709551615 W h (by decide))
  have HE := Hid.mk' (fun g d W (h : RD W g d (uintR 18446744073709551615 (uintR 4294967295 ⟨l, 0⟩).2).2) => rend_any g d _ W h)
  unfold RPost at HN HU
  obtain ⟨s1, hs1⟩ : ∃ s, s = (uintR 4294967295 ⟨l, 0⟩).2 := ⟨_, rfl⟩
  obtain ⟨x1, hx1⟩ : ∃ s, s = (uintR 4294967295 ⟨l, 0⟩).1 := ⟨_, rfl⟩
  rw [← hs1] at HT HN HU HE
  rw [← hx1] at HT HN
  obtain ⟨s2, hs2⟩ : ∃ s, s = (uintR 18446744073709551615 s1).2 := ⟨_, rfl⟩
  obtain ⟨x2, hx2⟩ : ∃ s, s = (uintR 18446744073709551615 s1).1 := ⟨_, rfl⟩
  rw [← hs2] at HT HU HE
  rw [← hx2] at HT HU
  obtain ⟨E, hE⟩ : ∃ s, s = endE s2 := ⟨_, rfl⟩
  rw [← hE] at HT HE
  clear hs1 hx1 hs2 hx2 hE hl hb
  go_enter Tryz.func18, Tryz.ntmps18
  go_upto_region 5 with (first
    | (go_at_call 58; refine HRD.out.mono ?_; rintro e w1 ⟨g, rfl, hg, hr, hb1⟩; have HG := Hid.mk' hg; have HR1 := Hid.mk' hr; have HB1 := Hid.mk' hb1; clear hg hr hb1)
    | (go_at_call 59; refine (HN.out g _ _ HR1.out).mono ?_; rintro e w2 ⟨rfl, hr, ht⟩; have HR2 := Hid.mk' hr; have HB2 := Hid.mk' (Tch.ext HB1.out HG.out ht); clear hr ht)
    | (go_at_call 60; refine (HU.out g _ _ HR2.out).mono ?_; rintro e w3 ⟨rfl, hr, ht⟩; have HR3 := Hid.mk' hr; have HB3 := Hid.mk' (Tch.ext HB2.out HG.out ht); clear hr ht)
    | (go_at_call 61; refine (HE.out g _ _ HR3.out).mono ?_; rintro e w4 ⟨rfl, rfl⟩))
  by_cases hE0 : E = 0
  · subst hE0
    by_cases hx0 : x1 = 0
    · have HR := Hid.mk' (show tkB l = (0, 0, 4) from by rw [HT.out, if_neg (by simp), if_pos hx0])
      subst hx0
      clear HT
      go_wp2
      go_ret3
      exact ⟨by rw [HR.out]; rfl, HB3.out⟩
    · have hx0' : ((x1 : Int) == 0) = false := by simpa using hx0
      have HR := Hid.mk' (show tkB l = (x1, x2, 0) from by rw [HT.out, if_neg (by simp), if_neg hx0])
      clear HT hx0
      go_wp2
      go_ret3
      exact ⟨by rw [HR.out]; rfl, HB3.out⟩
  · have hE1 : (E == 0) = false := by simpa using hE0
    have hE2 : (E != 0) = true := by simpa using hE0
    have HR := Hid.mk' (show tkB l = (0, 0, E) from by rw [HT.out, if_pos hE0])
    clear HT hE0
    go_wp2
    go_ret3
    exact ⟨by rw [HR.out]; rfl, HB3.out⟩

set_option maxRecDepth 100000 in set_option maxHeartbeats 2000000 in
theorem ptcommit_any (v : Value) (l : List Int) (w : World) (hl : Sl w v 1 (l.map bcell)) (hlen : l.length ≤ 1000) (hb : isB l) :
    Calls Tryz.prog 20 #[v] w fun e w' => e = .returned (.tuple #[.int .u32 (tkC l).1, .int .i64 (tkC l).2.1, .int .i64 (tkC l).2.2]) ∧ Ext w w' := by
  have HRD := Hid.mk' (read_any v l w hl (by omega) hb)
  have HT : Hid (tkC l = if endE (uintR 512 (uintR 4294967295 ⟨l, 0⟩).2).2 ≠ 0 then (0, 0, endE (uintR 512 (uintR 4294967295 ⟨l, 0⟩).2).2) else ((uintR 4294967295 ⟨l, 0⟩).1, (uintR 512 (uintR 4294967295 ⟨l, 0⟩).2).1, 0)) := Hid.mk' rfl
  have HN := Hid.mk' (fun g d W (h : RD W g d ⟨l, 0⟩) => number_any g d ⟨l, 0⟩ W h)
  have HU := Hid.mk' (fun g d W (h : RD W g d (uintR 4294967295 ⟨l, 0⟩).2) => ruint2_any g d (uintR 4294967295 ⟨l, 0⟩).2 512 W h (by decide))
  have HE := Hid.mk' (fun g d W (h : RD W g d (uintR 512 (uintR 4294967295 ⟨l, 0⟩).2).2) => rend_any g d _ W h)
  have hle := uintR_le (st := (uintR 4294967295 ⟨l, 0⟩).2) 512
  unfold RPost at HN HU
  obtain ⟨s1, hs1⟩ : ∃ s, s = (uintR 4294967295 ⟨l, 0⟩).2 := ⟨_, rfl⟩
  obtain ⟨x1, hx1⟩ : ∃ s, s = (uintR 4294967295 ⟨l, 0⟩).1 := ⟨_, rfl⟩
  rw [← hs1] at HT HN HU HE hle
  rw [← hx1] at HT HN
  obtain ⟨s2, hs2⟩ : ∃ s, s = (uintR 512 s1).2 := ⟨_, rfl⟩
  obtain ⟨x2, hx2⟩ : ∃ s, s = (uintR 512 s1).1 := ⟨_, rfl⟩
  rw [← hs2] at HT HU HE
  rw [← hx2] at HT HU hle
  obtain ⟨E, hE⟩ : ∃ s, s = endE s2 := ⟨_, rfl⟩
  rw [← hE] at HT HE
  clear hs1 hx1 hs2 hx2 hE hl hb
  go_enter Tryz.func20, Tryz.ntmps20
  go_upto_region 5 with (first
    | (go_at_call 58; refine HRD.out.mono ?_; rintro e w1 ⟨g, rfl, hg, hr, hb1⟩; have HG := Hid.mk' hg; have HR1 := Hid.mk' hr; have HB1 := Hid.mk' hb1; clear hg hr hb1)
    | (go_at_call 59; refine (HN.out g _ _ HR1.out).mono ?_; rintro e w2 ⟨rfl, hr, ht⟩; have HR2 := Hid.mk' hr; have HB2 := Hid.mk' (Tch.ext HB1.out HG.out ht); clear hr ht)
    | (go_at_call 60; refine (HU.out g _ _ HR2.out).mono ?_; rintro e w3 ⟨rfl, hr, ht⟩; have HR3 := Hid.mk' hr; have HB3 := Hid.mk' (Tch.ext HB2.out HG.out ht); clear hr ht)
    | (go_at_call 61; refine (HE.out g _ _ HR3.out).mono ?_; rintro e w4 ⟨rfl, rfl⟩))
  by_cases hE0 : E = 0
  · subst hE0
    have HR := Hid.mk' (show tkC l = (x1, x2, 0) from by rw [HT.out, if_neg (by simp)])
    clear HT
    go_wp2
    go_ret3
    exact ⟨by rw [HR.out]; rfl, HB3.out⟩
  · have hE1 : (E != 0) = true := by simpa using hE0
    have HR := Hid.mk' (show tkC l = (0, 0, E) from by rw [HT.out, if_pos hE0])
    clear HT hE0
    go_wp2
    go_ret3
    exact ⟨by rw [HR.out]; rfl, HB3.out⟩

end Go.Proofs.YtibgippchdmdlaaGreat
