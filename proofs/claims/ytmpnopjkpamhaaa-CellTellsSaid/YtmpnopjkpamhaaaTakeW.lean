/-
Readers, in plain words: runs of sevens; from no other bytes; cut anywhere too short.
-/
import Derived.Test.YtmpnopjkpamhaaaTakeV
import Derived.Test.YtmpnopjkpamhaaaPutB
namespace Go.Proofs.Ytmpnopjkpamhaaa
open Go.RowKit

/-- The number of sevens, the least first. -/
def valL : List Int → Nat
  | [] => 0
  | x :: l => (x % 128).toNat + 128 * valL l
theorem valL_snoc : ∀ (l : List Int) (x : Int), valL (l ++ [x]) = valL l + (x % 128).toNat * 128 ^ l.length := by
  intro l
  induction l with
  | nil => intro x; simp [valL]
  | cons y l ih => intro x; rw [List.cons_append, valL, ih, valL, List.length_cons, Nat.pow_succ, Nat.mul_add, ← Nat.mul_assoc, Nat.mul_comm 128 ((x % 128).toNat), Nat.mul_assoc, Nat.mul_comm 128 (128 ^ l.length)]; omega
theorem valL_lt : ∀ (l : List Int), valL l < 128 ^ l.length := by
  intro l
  induction l with
  | nil => simp [valL]
  | cons x l ih => rw [valL, List.length_cons, Nat.pow_succ]; have : (x % 128).toNat < 128 := by omega
                   omega
/-- A run of bytes that say there is more. -/
theorem digs_run : ∀ (n : Nat) (l : List Int) (k v : Nat), k + n ≤ 9 → n ≤ l.length → (∀ i, i < n → 128 ≤ l.getD i 0) → digs l k v = digs (l.drop n) (k + n) (v + valL (l.take n) * 128 ^ k) := by
  intro n
  induction n with
  | zero => intro l k v _ _ _; simp [valL]
  | succ n ih =>
    intro l k v hk hn h
    cases l with
    | nil => simp at hn
    | cons x l =>
      have hx : 128 ≤ x := by simpa using h 0 (by omega)
      rw [digs, if_neg (by omega), if_pos hx, ih l (k + 1) _ (by omega) (by simpa using hn) (fun i hi => by simpa using h (i + 1) (by omega))]
      rw [List.drop_succ_cons, List.take_succ_cons, valL, Nat.add_mul, show k + 1 + n = k + (n + 1) by omega]
      congr 1
      rw [Nat.pow_succ, Nat.mul_comm (128 ^ k) 128, Nat.mul_right_comm, Nat.add_assoc, Nat.mul_comm (128 * 128 ^ k)]
theorem digs_ten (l : List Int) (h : 10 ≤ l.length) (hb : ∀ i, i < 10 → 128 ≤ l.getD i 0) : digs l 0 0 = (0, 0, 5) := by
  rw [digs_run 9 l 0 0 (by omega) (by omega) (fun i hi => hb i (by omega))]
  have e : l.drop 9 = l.getD 9 0 :: l.drop 10 := by
    rw [List.drop_eq_getElem_cons (by omega)]; simp [List.getD, List.getElem?_eq_getElem (show 9 < l.length by omega)]
  have := hb 9 (by omega)
  rw [e, digs, if_pos ⟨by omega, by omega⟩]
theorem digs_short (l : List Int) (n : Nat) (hn : n = l.length) (h9 : n ≤ 9) (hb : ∀ i, i < n → 128 ≤ l.getD i 0) : digs l 0 0 = (0, 0, 1) := by
  rw [digs_run n l 0 0 (by omega) (by omega) hb, hn, List.drop_length]; rfl
theorem digs_at (l : List Int) (n : Nat) (hn : n < l.length) (h9 : n ≤ 9) (hb : ∀ i, i < n → 128 ≤ l.getD i 0) (hx : l.getD n 0 < 128) :
    digs l 0 0 = if n = 9 ∧ 1 < l.getD n 0 then (0, 0, 5) else if 1 ≤ n ∧ l.getD n 0 = 0 then (0, 0, 5) else (valL (l.take (n + 1)), n + 1, 0) := by
  have e : l.drop n = l.getD n 0 :: l.drop (n + 1) := by
    rw [List.drop_eq_getElem_cons hn]; simp [List.getD, List.getElem?_eq_getElem hn]
  have e2 : l.take (n + 1) = l.take n ++ [l.getD n 0] := by
    rw [List.take_succ_eq_append_getElem hn]; simp [List.getD, List.getElem?_eq_getElem hn]
  have e3 : (l.take n).length = n := by simp; omega
  rw [digs_run n l 0 0 (by omega) (by omega) hb, e, digs, e2, valL_snoc, e3]
  simp only [Nat.zero_add, Nat.pow_zero, Nat.mul_one]
  split
  · rfl
  · rw [if_neg (by omega)]

/-! From no other bytes. -/
theorem giveS_e {st : RS} {e : Int} (he : e ≠ 0) : (giveS st e).e ≠ 0 := by unfold giveS; split; exact he; assumption
theorem uintR_e {st : RS} {m : Nat} (h : (uintR m st).2.e = 0) : st.e = 0 := by
  unfold uintR at h; simp only at h; (repeat' split at h)
  · rename_i hd; exact absurd h (giveS_e hd)
  · exact absurd h (giveS_e (by decide))
  · exact h
theorem bytesR_e {st : RS} {n : Nat} (h : (bytesR n st).2.e = 0) : st.e = 0 := by
  unfold bytesR at h; split at h
  · exact absurd h (giveS_e (by decide))
  · exact h
theorem uintR_inv {b l : List Int} {m x : Nat} (hb : isB b) (h : uintR m ⟨b, 0⟩ = (x, ⟨l, 0⟩)) : b = sevens x ++ l ∧ x < 2 ^ 64 ∧ x ≤ m := by
  unfold uintR at h
  simp only at h
  split at h
  · rename_i hd
    have := congrArg (fun z => z.2.e) h
    exact absurd this (giveS_e hd)
  · split at h
    · have := congrArg (fun z => z.2.e) h
      exact absurd this (giveS_e (by decide))
    · rename_i hd hm
      obtain ⟨v, n, e⟩ : ∃ v n, digs b 0 0 = (v, n, 0) := ⟨_, _, Prod.ext rfl (Prod.ext rfl (Classical.not_not.1 hd))⟩
      rw [e] at h hm
      simp only [Prod.mk.injEq, RS.mk.injEq] at h
      obtain ⟨rfl, rfl, -⟩ := h
      obtain ⟨y, h1, h2, h3, h4, -⟩ := digs_inv b 0 0 _ _ hb (by omega) e
      simp only [Nat.pow_zero, Nat.mul_one, Nat.zero_add] at h1 h2 h4
      subst h1; subst h2
      exact ⟨h3, h4, by simpa using hm⟩
theorem bytesR_inv {b l m : List Int} {n : Nat} (h : bytesR n ⟨b, 0⟩ = (m, ⟨l, 0⟩)) : b = m ++ l ∧ m.length = n := by
  unfold bytesR at h
  simp only at h
  split at h
  · have := congrArg (fun z => z.2.e) h
    exact absurd this (giveS_e (by decide))
  · rename_i hn
    simp only [Prod.mk.injEq, RS.mk.injEq] at h
    obtain ⟨rfl, rfl, -⟩ := h
    exact ⟨(List.take_append_drop n b).symm, by simp; omega⟩
theorem wordR_inv {b l : List Int} {x : Nat} (hb : isB b) (h : wordR ⟨b, 0⟩ = (x, ⟨l, 0⟩)) : b = wordL (x : Int) ++ l ∧ x < 2 ^ 64 := by
  unfold wordR at h
  simp only [Prod.mk.injEq] at h
  obtain ⟨h1, h2⟩ := h
  obtain ⟨m, hm⟩ : ∃ m, bytesR 8 ⟨b, 0⟩ = (m, ⟨l, 0⟩) := ⟨_, Prod.ext rfl h2⟩
  rw [hm] at h1
  simp only at h1
  obtain ⟨rfl, h8⟩ := bytesR_inv hm
  have hbm : isB m := fun z hz => hb z (List.mem_append.2 (.inl hz))
  subst h1
  exact ⟨by rw [word_inv hbm h8], ofBytes_lt64 hbm (by omega)⟩
theorem floatR_inv {b l : List Int} {x : Nat} {ver : Int} (hb : isB b) (h : floatR ver ⟨b, 0⟩ = (x, ⟨l, 0⟩)) : b = floatL x ver ++ l ∧ x < 2 ^ 64 := by
  unfold floatR at h
  unfold floatL
  by_cases hv : ver = 1
  · rw [if_pos hv] at h ⊢; exact wordR_inv hb h
  · rw [if_neg hv] at h ⊢
    simp only [Prod.mk.injEq] at h
    obtain ⟨h1, h2⟩ := h
    obtain ⟨y, hy⟩ : ∃ y, uintR 18446744073709551615 ⟨b, 0⟩ = (y, ⟨l, 0⟩) := ⟨_, Prod.ext rfl h2⟩
    rw [hy] at h1
    simp only at h1
    obtain ⟨h3, h4, -⟩ := uintR_inv hb hy
    subst h1
    exact ⟨by rw [rev_rev h4]; exact h3, rev_lt⟩
theorem floatR_e {st : RS} {ver : Int} (h : (floatR ver st).2.e = 0) : st.e = 0 := by
  unfold floatR at h; split at h
  · exact bytesR_e h
  · exact uintR_e h
theorem partR_e {st : RS} {t : Bool} (h : (partR t st).2.e = 0) : st.e = 0 := by
  unfold partR at h; split at h
  · simp only at h; split at h
    · exact absurd h (giveS_e (by decide))
    · exact floatR_e h
  · exact h
theorem partR_inv {b l : List Int} {x : Nat} {t : Bool} (hb : isB b) (h : partR t ⟨b, 0⟩ = (x, ⟨l, 0⟩)) : t = decide (x ≠ 0) ∧ b = (if x = 0 then [] else floatL x 2) ++ l ∧ x < 2 ^ 64 := by
  unfold partR at h
  cases t with
  | false =>
    simp only [Bool.false_eq_true, if_false, Prod.mk.injEq, RS.mk.injEq] at h
    obtain ⟨rfl, rfl, -⟩ := h
    exact ⟨rfl, rfl, by decide⟩
  | true =>
    simp only [if_true, Prod.mk.injEq] at h
    obtain ⟨h1, h2⟩ := h
    split at h2
    · have := congrArg RS.e h2
      exact absurd this (giveS_e (by decide))
    · rename_i hx
      obtain ⟨h3, h4⟩ := floatR_inv hb (Prod.ext h1 h2)
      rw [h1] at hx
      exact ⟨by simp [hx], by rw [if_neg hx]; exact h3, h4⟩
theorem RS.eta (st : RS) (h : st.e = 0) : st = ⟨st.l, 0⟩ := by cases st; simp only at h; subst h; rfl
theorem complexR_inv {b l : List Int} {x y : Nat} {ver : Int} (hv : ver = 1 ∨ ver = 2) (hb : isB b) (h : complexR ver ⟨b, 0⟩ = ((x, y), ⟨l, 0⟩)) : b = complexL x y ver ++ l ∧ x < 2 ^ 64 ∧ y < 2 ^ 64 := by
  unfold complexR at h
  rcases hv with rfl | rfl
  · rw [if_pos rfl] at h
    simp only [Prod.mk.injEq] at h
    obtain ⟨⟨h1, h2⟩, h3⟩ := h
    have he : (wordR ⟨b, 0⟩).2.e = 0 := bytesR_e (by have := congrArg RS.e h3; exact this)
    have e1 : wordR ⟨b, 0⟩ = (x, ⟨(wordR ⟨b, 0⟩).2.l, 0⟩) := Prod.ext h1 (RS.eta _ he)
    obtain ⟨h4, h5⟩ := wordR_inv hb e1
    rw [RS.eta _ he] at h2 h3
    have hb2 : isB (wordR ⟨b, 0⟩).2.l := fun z hz => hb z (by rw [h4]; exact List.mem_append.2 (.inr hz))
    obtain ⟨h6, h7⟩ := wordR_inv hb2 (Prod.ext h2 h3)
    refine ⟨?_, h5, h7⟩
    unfold complexL floatL
    rw [if_neg (by decide), if_pos rfl, if_pos rfl, List.append_assoc, ← h6]; exact h4
  · rw [if_neg (by decide)] at h
    simp only [Prod.mk.injEq] at h
    obtain ⟨⟨h1, h2⟩, h3⟩ := h
    obtain ⟨m, S1, hm⟩ : ∃ m S1, byteR ⟨b, 0⟩ = (m, S1) := ⟨_, _, rfl⟩
    rw [hm] at h1 h2 h3
    simp only at h1 h2 h3
    obtain ⟨S2, hS2⟩ : ∃ S2, S2 = (if 3 < m then giveS S1 4 else S1) := ⟨_, rfl⟩
    rw [← hS2] at h1 h2 h3
    obtain ⟨p, S3, hp⟩ : ∃ p S3, partR (decide (m % 2 = 1)) S2 = (p, S3) := ⟨_, _, rfl⟩
    rw [hp] at h1 h2 h3
    simp only at h1 h2 h3
    subst h1
    have e3 : S3.e = 0 := partR_e (t := decide (m / 2 % 2 = 1)) (by rw [h3])
    have e2 : S2.e = 0 := partR_e (t := decide (m % 2 = 1)) (by rw [hp]; exact e3)
    have hm3 : ¬ 3 < m := by
      intro h3
      rw [if_pos h3] at hS2
      rw [hS2] at e2
      exact giveS_e (by decide) e2
    rw [if_neg hm3] at hS2
    subst hS2
    obtain ⟨L1, rfl⟩ : ∃ L, S2 = ⟨L, 0⟩ := ⟨_, RS.eta _ e2⟩
    obtain ⟨L3, rfl⟩ : ∃ L, S3 = ⟨L, 0⟩ := ⟨_, RS.eta _ e3⟩
    have hbm : bytesR 1 ⟨b, 0⟩ = ((bytesR 1 ⟨b, 0⟩).1, ⟨L1, 0⟩) := Prod.ext rfl (by have := congrArg Prod.snd hm; exact this)
    obtain ⟨hb1, hb2⟩ := bytesR_inv hbm
    obtain ⟨z, hz⟩ : ∃ z, (bytesR 1 ⟨b, 0⟩).1 = [z] := by
      cases hq : (bytesR 1 ⟨b, 0⟩).1 with
      | nil => rw [hq] at hb2; cases hb2
      | cons z q => cases q with
        | nil => exact ⟨z, rfl⟩
        | cons y q => rw [hq] at hb2; simp at hb2
    have hzm : z = m := by have := congrArg Prod.fst hm; simp only [byteR, hz] at this; exact this
    subst hzm
    rw [hz] at hb1
    have hB1 : isB L1 := fun q hq => hb q (by rw [hb1]; exact List.mem_append.2 (.inr hq))
    obtain ⟨t1, l1, x1⟩ := partR_inv hB1 hp
    have hB3 : isB L3 := fun q hq => hB1 q (by rw [l1]; exact List.mem_append.2 (.inr hq))
    obtain ⟨t2, l2, x2⟩ := partR_inv hB3 (Prod.ext h2 h3)
    have hz0 : 0 ≤ z := (hb z (by rw [hb1]; simp)).1
    have hmark : z = markOf p y := by
      have q1 := decide_eq_decide.1 t1
      have q2 := decide_eq_decide.1 t2
      unfold markOf
      clear hb hb1 hb2 hz hm hbm hp h2 h3 l1 l2 t1 t2 x1 x2 hB1 hB3 e2 e3
      split <;> split <;> simp_all <;> omega
    refine ⟨?_, x1, x2⟩
    unfold complexL
    rw [if_pos rfl, hb1, ← hmark, List.append_assoc, List.append_assoc, ← l2, ← l1]

theorem byteR_inv {b l : List Int} {x : Int} (h : byteR ⟨b, 0⟩ = (x, ⟨l, 0⟩)) : b = x :: l := by
  unfold byteR at h
  simp only [Prod.mk.injEq] at h
  obtain ⟨h1, h2⟩ := h
  obtain ⟨m, hm⟩ : ∃ m, bytesR 1 ⟨b, 0⟩ = (m, ⟨l, 0⟩) := ⟨_, Prod.ext rfl h2⟩
  rw [hm] at h1
  obtain ⟨hb1, hb2⟩ := bytesR_inv hm
  cases m with
  | nil => cases hb2
  | cons z q => cases q with
    | nil => simp at h1; subst h1; exact hb1
    | cons y q => simp at hb2
theorem textR_inv {b l m : List Int} {n : Nat} (hb : isB b) (h : textR n ⟨b, 0⟩ = (m, ⟨l, 0⟩)) : b = sevens m.length ++ m ++ l ∧ m.length ≤ n := by
  unfold textR at h
  simp only at h
  obtain ⟨x, S1, hx⟩ : ∃ x S1, uintR n ⟨b, 0⟩ = (x, S1) := ⟨_, _, rfl⟩
  rw [hx] at h
  simp only at h
  have he : S1.e = 0 := bytesR_e (n := x) (by rw [h])
  obtain ⟨L1, rfl⟩ : ∃ L, S1 = ⟨L, 0⟩ := ⟨_, RS.eta _ he⟩
  obtain ⟨h1, -, h2⟩ := uintR_inv hb hx
  obtain ⟨h3, h4⟩ := bytesR_inv h
  subst h4
  exact ⟨by rw [h1, h3, List.append_assoc], h2⟩
theorem failS_e {S : RS} {e : Int} (h : (failS S e).e = 0) : e = 0 ∧ S.e = 0 := by
  unfold failS at h
  split at h
  · rename_i he; exact absurd h (giveS_e he)
  · rename_i he; exact ⟨Classical.not_not.1 he, h⟩

theorem wf_mk {ty n : Int} {x y : Nat} {s : ByteArray} (h1 : -9223372036854775808 ≤ n) (h2 : n < 9223372036854775808) (h3 : x < 2 ^ 64) (h4 : y < 2 ^ 64) : V.wf ⟨ty, n, x, y, s⟩ := ⟨⟨h1, h2⟩, h3, h4⟩
/-- What is taken of any bytes is put as just these. -/
theorem takeV_inv {b l : List Int} {kind ver : Int} {v : V} (hb : isB b) (hv : ver = 1 ∨ ver = 2) (h : takeV kind ver ⟨b, 0⟩ = (v, ⟨l, 0⟩)) : v.right = 0 ∧ v.wf ∧ v.ty = kind ∧ b = v.put ver ++ l := by
  unfold takeV at h
  rw [if_pos hv] at h
  simp only at h
  split at h
  · rename_i he
    have := congrArg (fun z => z.2.e) h
    exact absurd this he
  · rename_i he
    simp only [Classical.not_not] at he
    obtain ⟨v', S, hS⟩ : ∃ v' S, bodyR kind ver ⟨b, 0⟩ = (v', S) := ⟨_, _, rfl⟩
    rw [hS] at h he
    simp only at h he
    obtain ⟨hr, hSe⟩ := failS_e he
    simp only [Prod.mk.injEq] at h
    obtain ⟨rfl, h2⟩ := h
    have hS2 : S = ⟨l, 0⟩ := by unfold failS at h2; rw [if_neg (by simp [hr])] at h2; exact h2
    subst hS2
    clear h2 he hSe
    unfold bodyR at hS
    have hty := right_zero hr
    (repeat' split at hS)
    · rename_i hk
      simp only [Prod.mk.injEq] at hS
      obtain ⟨rfl, h2⟩ := hS
      have hx := byteR_inv (x := (byteR ⟨b, 0⟩).1) (Prod.ext rfl h2)
      simp only at hty
      have h01 := hty.2.2.2.1 hk
      refine ⟨hr, wf_mk (by omega) (by omega) (by decide) (by decide), rfl, ?_⟩
      simp only [V.put, putL]; rw [if_pos hk]; exact hx
    · rename_i hk hv1
      simp only [Prod.mk.injEq] at hS
      obtain ⟨rfl, h2⟩ := hS
      obtain ⟨h3, h4⟩ := wordR_inv (x := (wordR ⟨b, 0⟩).1) hb (Prod.ext rfl h2)
      refine ⟨hr, wf_mk (toI64_rng h4).1 (toI64_rng h4).2 (by decide) (by decide), rfl, ?_⟩
      simp only [V.put, putL]; rw [if_neg (by omega), if_pos hk, if_pos hv1, mod_toI64 h4]; exact h3
    · rename_i hk hv1
      simp only [Prod.mk.injEq, intR] at hS
      obtain ⟨rfl, h2⟩ := hS
      obtain ⟨h3, h4, -⟩ := uintR_inv (x := (uintR 18446744073709551615 ⟨b, 0⟩).1) hb (Prod.ext rfl h2)
      refine ⟨hr, wf_mk (zag_rng h4).1 (zag_rng h4).2 (by decide) (by decide), rfl, ?_⟩
      simp only [V.put, putL]; rw [if_neg (by omega), if_pos hk, if_neg hv1, zig_zag]; exact h3
    · rename_i hk
      simp only [Prod.mk.injEq] at hS
      obtain ⟨rfl, h2⟩ := hS
      obtain ⟨h3, h4⟩ := floatR_inv (x := (floatR ver ⟨b, 0⟩).1) hb (Prod.ext rfl h2)
      refine ⟨hr, wf_mk (by decide) (by decide) h4 (by decide), rfl, ?_⟩
      simp only [V.put, putL]; rw [if_neg (by omega), if_neg (by omega), if_pos hk]; exact h3
    · rename_i hk
      simp only [Prod.mk.injEq] at hS
      obtain ⟨rfl, h2⟩ := hS
      obtain ⟨h3, h4, h5⟩ := complexR_inv (x := (complexR ver ⟨b, 0⟩).1.1) (y := (complexR ver ⟨b, 0⟩).1.2) hv hb (Prod.ext rfl h2)
      refine ⟨hr, wf_mk (by decide) (by decide) h4 h5, rfl, ?_⟩
      simp only [V.put, putL]; rw [if_neg (by omega), if_neg (by omega), if_neg (by omega), if_pos hk]; exact h3
    · rename_i hk
      simp only [Prod.mk.injEq] at hS
      obtain ⟨rfl, h2⟩ := hS
      obtain ⟨h3, h4⟩ := textR_inv (m := (textR 2048 ⟨b, 0⟩).1) hb (Prod.ext rfl h2)
      have hbm : isB (textR 2048 ⟨b, 0⟩).1 := fun z hz => hb z (by rw [h3]; simp [hz])
      refine ⟨hr, wf_mk (by decide) (by decide) (by decide) (by decide), rfl, ?_⟩
      simp only [V.put, putL]
      rw [if_neg (by omega), if_neg (by omega), if_neg (by omega), if_neg (by omega), strL_strOf hbm, strOfNums_size]; exact h3
    · exfalso
      simp only [Prod.mk.injEq] at hS
      obtain ⟨rfl, h2⟩ := hS
      simp only at hty
      omega

/-! Cut anywhere. -/
def gone : RS := ⟨[], 1⟩
theorem give_gone (e : Int) : giveS gone e = gone := rfl
theorem digs_cut : ∀ (k x n v : Nat) (q : List Int), x ≤ k → x * 128 ^ n < 2 ^ 64 → (1 ≤ n → 1 ≤ x) → q.length < (sevens x).length → (∃ r, sevens x = q ++ r) → digs q n v = (0, 0, 1) := by
  intro k
  induction k using Nat.strongRecOn with
  | _ k ih =>
    intro x n v q hk hx hn hq ⟨r, hr⟩
    cases q with
    | nil => rfl
    | cons b q =>
      by_cases h : x < 128
      · rw [sevens_lt h] at hq; simp at hq
      · rw [sevens_ge h] at hr hq
        simp only [List.cons_append, List.cons.injEq, List.length_cons] at hr hq
        obtain ⟨rfl, hr⟩ := hr
        have hn8 : n ≠ 9 := by
          rintro rfl
          have h3 : 128 * 128 ^ 9 ≤ x * 128 ^ 9 := Nat.mul_le_mul_right _ (by omega)
          have h4 : (2 : Nat) ^ 64 < 128 * 128 ^ 9 := by decide
          omega
        have ep : 128 ^ (n + 1) = 128 * 128 ^ n := by rw [Nat.pow_succ, Nat.mul_comm]
        have hd : (x / 128) * (128 * 128 ^ n) ≤ x * 128 ^ n := by
          rw [← Nat.mul_assoc]; exact Nat.mul_le_mul_right _ (by omega)
        rw [digs, if_neg (by omega), if_pos (by omega)]
        exact ih (x / 128) (by omega) (x / 128) (n + 1) _ q (Nat.le_refl _) (by rw [ep]; omega) (fun _ => by omega) (by omega) ⟨r, hr⟩

theorem uintR_cut {x m : Nat} {q : List Int} (hx : x < 2 ^ 64) (hq : q.length < (sevens x).length) (hr : ∃ r, sevens x = q ++ r) : uintR m ⟨q, 0⟩ = (0, gone) := by
  unfold uintR
  simp only [digs_cut x x 0 0 q (Nat.le_refl _) (by simpa using hx) (fun h => by omega) hq hr]
  rfl
theorem uintR_gone (m : Nat) : uintR m gone = (0, gone) := rfl
theorem bytesR_cut {n : Nat} {q : List Int} (hq : q.length < n) : bytesR n ⟨q, 0⟩ = ([], gone) := by unfold bytesR; rw [if_pos hq]; rfl
theorem wordR_cut {q : List Int} (hq : q.length < 8) : wordR ⟨q, 0⟩ = (0, gone) := by unfold wordR; rw [bytesR_cut hq]; rfl
theorem wordR_gone : wordR gone = (0, gone) := rfl
theorem floatR_gone (ver : Int) : floatR ver gone = (0, gone) := by
  unfold floatR; split
  · rfl
  · rw [uintR_gone]; rfl
theorem floatR_cut {x : Nat} {ver : Int} {q : List Int} (hq : q.length < (floatL x ver).length) (hr : ∃ r, floatL x ver = q ++ r) : floatR ver ⟨q, 0⟩ = (0, gone) := by
  unfold floatR floatL at *
  by_cases hv : ver = 1
  · rw [if_pos hv] at *; rw [wordL_len] at hq; exact wordR_cut hq
  · rw [if_neg hv] at *; rw [uintR_cut rev_lt hq hr]; rfl
theorem partR_gone (t : Bool) : partR t gone = (0, gone) := by
  unfold partR; split
  · rw [floatR_gone]; rfl
  · rfl
theorem partR_cut {x : Nat} {q : List Int} (hq : q.length < (floatL x 2).length) (hr : ∃ r, floatL x 2 = q ++ r) : partR true ⟨q, 0⟩ = (0, gone) := by
  unfold partR; rw [if_pos rfl, floatR_cut hq hr]; rfl

theorem complexR_gone (ver : Int) : (complexR ver gone).2 = gone := by
  unfold complexR; split
  · rfl
  · have : byteR gone = (0, gone) := rfl
    simp only [this, give_gone, ite_self, partR_gone]

/-- A part ahead of the end: either within the first, or the first and a part of the second. -/
theorem cut_append {p m q r : List Int} (h : p ++ m = q ++ r) : (∃ s, p = q ++ s ∧ q.length < p.length) ∨ ∃ s, q = p ++ s ∧ m = s ++ r := by
  rcases Nat.lt_or_ge q.length p.length with hl | hl
  · left
    refine ⟨p.drop q.length, ?_, hl⟩
    have := congrArg (List.take q.length) h
    rw [List.take_append_of_le_length (by omega), List.take_left] at this
    rw [← this, List.length_take, Nat.min_eq_left (by omega), List.take_append_drop]
  · right
    refine ⟨q.drop p.length, ?_, ?_⟩
    · have := congrArg (List.take p.length) h
      rw [List.take_left, List.take_append_of_le_length hl] at this
      conv => rhs; lhs; rw [this]
      rw [List.take_append_drop]
    · have := congrArg (List.drop p.length) h
      rw [List.drop_left, List.drop_append_of_le_length hl] at this
      exact this

theorem takeV_cut {v : V} {ver : Int} {q r : List Int} (hv : ver = 1 ∨ ver = 2) (hr : v.right = 0) (hw : v.wf) (h : v.put ver = q ++ r) (hr0 : r ≠ []) : takeV v.ty ver ⟨q, 0⟩ = (V.zero, gone) := by
  have hz := right_zero hr
  obtain ⟨w1, w2, w3⟩ := hw
  have hlt : q.length < (v.put ver).length := by
    rw [h, List.length_append]; have := List.length_pos_iff.2 hr0; omega
  have key : (bodyR v.ty ver ⟨q, 0⟩).2 = gone := by
    obtain ⟨ty, n, x, y, s⟩ := v
    simp only at *
    have ht : ty = 1 ∨ ty = 2 ∨ ty = 3 ∨ ty = 4 ∨ ty = 5 ∨ ty = 6 := by omega
    unfold bodyR
    rcases ht with rfl | rfl | rfl | rfl | rfl | rfl
    · simp only [V.put, putL] at hlt
      have : q.length < 1 := by simpa using hlt
      rw [if_pos rfl]
      simp only [byteR, bytesR_cut this]
    · rw [if_neg (by decide), if_pos rfl]
      rcases hv with rfl | rfl
      · have e : V.put ⟨2, n, x, y, s⟩ 1 = wordL (n % 18446744073709551616) := by simp [V.put, putL]
        rw [e, wordL_len] at hlt
        rw [if_pos rfl, wordR_cut hlt]
      · have e : V.put ⟨2, n, x, y, s⟩ 2 = sevens (zig n) := by simp [V.put, putL]
        rw [e] at hlt h
        rw [if_neg (by decide)]
        simp only [intR, uintR_cut (zig_lt n w1) hlt ⟨r, h⟩]
    · have e : V.put ⟨3, n, x, y, s⟩ ver = floatL x ver := by simp [V.put, putL]
      rw [e] at hlt h
      rw [if_neg (by decide), if_neg (by decide), if_pos rfl]
      simp only [floatR_cut hlt ⟨r, h⟩]
    · have e : V.put ⟨4, n, x, y, s⟩ ver = complexL x y ver := by simp [V.put, putL]
      rw [e] at hlt h
      rw [if_neg (by decide), if_neg (by decide), if_neg (by decide), if_pos rfl]
      show (complexR ver ⟨q, 0⟩).2 = gone
      unfold complexR complexL at *
      rcases hv with rfl | rfl
      · rw [if_neg (by decide)] at h hlt
        rw [if_pos rfl]
        have f1 : floatL x 1 = wordL (x : Int) := by unfold floatL; rw [if_pos rfl]
        have f2 : floatL y 1 = wordL (y : Int) := by unfold floatL; rw [if_pos rfl]
        rw [f1, f2] at h hlt
        rcases cut_append h with ⟨t, h1, h2⟩ | ⟨t, h1, h2⟩
        · rw [wordL_len] at h2
          simp only [wordR_cut h2, wordR_gone]
        · subst h1
          have : t.length < 8 := by simp [wordL_len] at hlt; omega
          simp only [wordR_put t w2, wordR_cut this]
      · rw [if_pos rfl] at h hlt
        rw [if_neg (by decide)]
        have m1 : decide (markOf x y % 2 = 1) = decide (x ≠ 0) := by unfold markOf; split <;> split <;> simp_all
        have m2 : decide (markOf x y / 2 % 2 = 1) = decide (y ≠ 0) := by unfold markOf; split <;> split <;> simp_all
        have m3 : ¬ 3 < markOf x y := by unfold markOf; split <;> split <;> omega
        cases q with
        | nil =>
          have : byteR ⟨[], 0⟩ = (0, gone) := rfl
          simp only [this, give_gone, ite_self, partR_gone]
        | cons b q =>
          simp only [List.cons_append, List.nil_append, List.cons.injEq] at h
          obtain ⟨rfl, h⟩ := h
          have hb : byteR ⟨markOf x y :: q, 0⟩ = (markOf x y, ⟨q, 0⟩) := rfl
          simp only [hb, m1, m2, if_neg m3]
          rcases cut_append h with ⟨t, h1, h2⟩ | ⟨t, h1, h2⟩
          · by_cases hx : x = 0
            · rw [if_pos hx] at h2; simp at h2
            · rw [if_neg hx] at h1 h2
              have : decide (x ≠ 0) = true := by simp [hx]
              rw [this, partR_cut h2 ⟨t, h1⟩]
              simp only [partR_gone]
          · subst h1
            rw [partR_put t w2]
            simp only
            by_cases hy : y = 0
            · exfalso
              rw [if_pos hy] at h2
              have := congrArg List.length h2
              have h3 := List.length_pos_iff.2 hr0
              simp at this
              omega
            · rw [if_neg hy] at h2
              have : decide (y ≠ 0) = true := by simp [hy]
              have hl : t.length < (floatL y 2).length := by rw [h2, List.length_append]; have := List.length_pos_iff.2 hr0; omega
              rw [this, partR_cut hl ⟨r, h2⟩]
    all_goals
      simp [V.put, putL, -List.append_assoc] at hlt h
      simp only [Int.reduceEq, if_false, if_true, or_true, true_or]
      show (textR 2048 ⟨q, 0⟩).2 = gone
      have hs := hz.2.2.1
      unfold textR
      rcases cut_append h with ⟨t, h1, h2⟩ | ⟨t, h1, h2⟩
      · rw [uintR_cut (by omega) h2 ⟨t, h1⟩]; rfl
      · subst h1
        rw [uintR_sevens t (by omega) hs]
        have : t.length < s.size := by simp [strL_len] at hlt; omega
        simp only [bytesR_cut this]
  unfold takeV
  rw [if_pos hv]
  simp only [key]
  have hf : ∀ e, failS gone e = gone := fun e => by unfold failS; split; exact give_gone e; rfl
  rw [hf]
  rw [if_pos (show gone.e ≠ 0 by decide)]

end Go.Proofs.Ytmpnopjkpamhaaa
