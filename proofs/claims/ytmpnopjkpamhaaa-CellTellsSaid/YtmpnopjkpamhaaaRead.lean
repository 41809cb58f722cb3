/-
Reading: what a reader answers, in plain words: numbers by sevens, words, texts, values; and what is put is read back.
-/
import Derived.Test.YtmpnopjkpamhaaaPut
namespace Go.Proofs.Ytmpnopjkpamhaaa
open Go.RowKit

/-- A reader: what is left, and the error with which it gave up. -/
structure RS where
  l : List Int
  e : Int

/-- Bytes. -/
def isB (l : List Int) : Prop := ∀ x ∈ l, 0 ≤ x ∧ x < 256
theorem isB.drop {l : List Int} (h : isB l) (n : Nat) : isB (l.drop n) := fun x hx => h x (List.mem_of_mem_drop hx)
theorem isB.take {l : List Int} (h : isB l) (n : Nat) : isB (l.take n) := fun x hx => h x (List.mem_of_mem_take hx)
theorem isB.nil : isB [] := fun x hx => by cases hx
theorem isB.append {l m : List Int} (h : isB l) (k : isB m) : isB (l ++ m) := fun x hx => by rcases List.mem_append.1 hx with h1 | h1; exact h x h1; exact k x h1
theorem isB.tail {x : Int} {l : List Int} (h : isB (x :: l)) : isB l := fun y hy => h y (List.mem_cons_of_mem _ hy)
theorem isB.head {x : Int} {l : List Int} (h : isB (x :: l)) : 0 ≤ x ∧ x < 256 := h x (by simp)

def giveS (st : RS) (e : Int) : RS := if st.e = 0 then ⟨[], e⟩ else st

/-- The next number by sevens: its value, how many bytes it has, what is wrong. -/
def digs : List Int → Nat → Nat → Nat × Nat × Int
  | [], _, _ => (0, 0, 1)
  | x :: l, n, v =>
    if n = 9 ∧ 1 < x then (0, 0, 5)
    else if 128 ≤ x then digs l (n + 1) (v + (x % 128).toNat * 128 ^ n)
    else if 1 ≤ n ∧ x = 0 then (0, 0, 5)
    else (v + (x % 128).toNat * 128 ^ n, n + 1, 0)

theorem digs_sevens : ∀ (k x n v : Nat) (l : List Int), x ≤ k → x * 128 ^ n < 2 ^ 64 → (1 ≤ n → 1 ≤ x) → digs (sevens x ++ l) n v = (v + x * 128 ^ n, n + (sevens x).length, 0) := by
  intro k
  induction k using Nat.strongRecOn with
  | _ k ih =>
    intro x n v l hk hx hn
    have hn9 : n ≤ 9 := by
      rcases Nat.lt_or_ge n 10 with h | h
      · omega
      · have h1 := hn (by omega)
        have h2 : 128 ^ 10 ≤ 128 ^ n := Nat.pow_le_pow_right (by decide) h
        have h3 : 128 ^ n ≤ x * 128 ^ n := Nat.le_mul_of_pos_left _ h1
        have h4 : (2 : Nat) ^ 64 < 128 ^ 10 := by decide
        omega
    by_cases h : x < 128
    · rw [sevens_lt h]
      show digs ((x : Int) :: l) n v = _
      rw [digs, if_neg, if_neg (by omega), if_neg]
      · have e : ((x : Int) % 128).toNat = x := by omega
        rw [e]; rfl
      · rintro ⟨h1, h2⟩; have := hn h1; omega
      · rintro ⟨h1, h2⟩
        subst h1
        have h3 : 2 * 128 ^ 9 ≤ x * 128 ^ 9 := Nat.mul_le_mul_right _ (by omega)
        have h4 : (2 : Nat) ^ 64 = 2 * 128 ^ 9 := by decide
        omega
    · rw [sevens_ge h]
      show digs (((x % 128 + 128 : Nat) : Int) :: (sevens (x / 128) ++ l)) n v = _
      have hn8 : n ≤ 8 := by
        rcases Nat.lt_or_ge n 9 with h1 | h1
        · omega
        · have : n = 9 := by omega
          subst this
          have h3 : 128 * 128 ^ 9 ≤ x * 128 ^ 9 := Nat.mul_le_mul_right _ (by omega)
          have h4 : (2 : Nat) ^ 64 < 128 * 128 ^ 9 := by decide
          omega
      have ep : 128 ^ (n + 1) = 128 * 128 ^ n := by rw [Nat.pow_succ, Nat.mul_comm]
      have ed : x * 128 ^ n = (x % 128) * 128 ^ n + (x / 128) * (128 * 128 ^ n) := by
        rw [← Nat.mul_assoc, ← Nat.add_mul]; congr 1; omega
      rw [digs, if_neg (by omega), if_pos (by omega), ih (x / 128) (by omega) _ _ _ _ (Nat.le_refl _) (by rw [ep]; omega) (fun _ => by omega), ep]
      have e : (((x % 128 + 128 : Nat) : Int) % 128).toNat = x % 128 := by omega
      rw [e, List.length_cons]
      refine Prod.ext ?_ (Prod.ext ?_ rfl)
      · show _ + _ + _ = _; omega
      · show n + 1 + (sevens (x / 128)).length = n + ((sevens (x / 128)).length + 1); omega

theorem sev_room (x b K : Nat) (hb : b < 128) (hK : K ∣ 72057594037927936) (h : x * (128 * K) < 18446744073709551616) : x * (128 * K) + b * K < 18446744073709551616 := by
  obtain ⟨c, hc⟩ := hK
  have e : (18446744073709551616 : Nat) = (2 * c) * (128 * K) := by
    have : (18446744073709551616 : Nat) = 256 * 72057594037927936 := rfl
    rw [this, hc, Nat.mul_comm K c, ← Nat.mul_assoc, ← Nat.mul_assoc, Nat.mul_right_comm 2 c 128]
  rw [e] at h ⊢
  have h2 : x < 2 * c := Nat.lt_of_mul_lt_mul_right h
  have h3 : b * K ≤ 127 * K := Nat.mul_le_mul_right K (by omega)
  have h4 : (x + 1) * (128 * K) ≤ 2 * c * (128 * K) := Nat.mul_le_mul_right _ h2
  have hk : 0 < K := by
    rcases Nat.eq_zero_or_pos K with h | h
    · subst h; simp at hc
    · exact h
  have h5 : 127 * K < 128 * K := Nat.mul_lt_mul_of_pos_right (by decide) hk
  have h6 : (x + 1) * (128 * K) = x * (128 * K) + 128 * K := by rw [Nat.add_mul, Nat.one_mul]
  omega
theorem sev_dvd (n : Nat) (h : n ≤ 8) : 128 ^ n ∣ 72057594037927936 := by
  have e : (72057594037927936 : Nat) = 128 ^ 8 := by decide
  rw [e]; exact Nat.pow_dvd_pow 128 h

theorem digs_inv : ∀ (l : List Int) (n v v' m : Nat), isB l → n ≤ 9 → digs l n v = (v', m, 0) →
    ∃ x, v' = v + x * 128 ^ n ∧ m = n + (sevens x).length ∧ l = sevens x ++ l.drop (sevens x).length ∧ x * 128 ^ n < 2 ^ 64 ∧ (1 ≤ n → 1 ≤ x) := by
  intro l
  induction l with
  | nil => intro n v v' m _ _ h; simp [digs] at h
  | cons b l ih =>
    intro n v v' m hb hn h
    obtain ⟨hb0, hb1⟩ := hb.head
    rw [digs] at h
    by_cases h1 : n = 9 ∧ 1 < b
    · rw [if_pos h1] at h; simp at h
    rw [if_neg h1] at h
    by_cases h2 : 128 ≤ b
    · rw [if_pos h2] at h
      have hn8 : n ≤ 8 := by
        rcases Nat.lt_or_ge n 9 with h3 | h3
        · omega
        · exact absurd ⟨by omega, by omega⟩ h1
      obtain ⟨x, hv, hm, hl, hx, hp⟩ := ih (n + 1) _ _ _ hb.tail (by omega) h
      have hx1 := hp (by omega)
      have ep : 128 ^ (n + 1) = 128 * 128 ^ n := by rw [Nat.pow_succ, Nat.mul_comm]
      rw [ep] at hv hx
      refine ⟨128 * x + (b % 128).toNat, ?_, ?_, ?_, ?_, fun _ => by omega⟩
      · rw [hv, Nat.add_mul, Nat.mul_comm 128 x, Nat.mul_assoc]; omega
      · rw [sevens_ge (by omega), List.length_cons, hm]
        rw [show (128 * x + (b % 128).toNat) / 128 = x by omega]; omega
      · rw [sevens_ge (by omega), List.length_cons, show (128 * x + (b % 128).toNat) / 128 = x by omega, List.drop_succ_cons, List.cons_append, ← hl]
        congr 1; omega
      · rw [Nat.add_mul, Nat.mul_comm 128 x, Nat.mul_assoc]
        exact sev_room x _ _ (by omega) (sev_dvd n hn8) hx
    · rw [if_neg h2] at h
      by_cases h3 : 1 ≤ n ∧ b = 0
      · rw [if_pos h3] at h; simp at h
      rw [if_neg h3] at h
      simp only [Prod.mk.injEq] at h
      obtain ⟨rfl, rfl, -⟩ := h
      have e : (b % 128).toNat = b.toNat := by omega
      refine ⟨b.toNat, by rw [e], ?_, ?_, ?_, fun _ => by omega⟩
      · rw [sevens_lt (by omega)]; rfl
      · rw [sevens_lt (by omega)]
        show b :: l = ((b.toNat : Nat) : Int) :: l
        congr 1; omega
      · have hc : n = 0 ∨ n = 1 ∨ n = 2 ∨ n = 3 ∨ n = 4 ∨ n = 5 ∨ n = 6 ∨ n = 7 ∨ n = 8 ∨ n = 9 := by omega
        rcases hc with rfl | rfl | rfl | rfl | rfl | rfl | rfl | rfl | rfl | rfl <;> omega

/-- The next number, at most so great. -/
def uintR (most : Nat) (st : RS) : Nat × RS :=
  let d := digs st.l 0 0
  if d.2.2 ≠ 0 then (0, giveS st d.2.2) else if most < d.1 then (0, giveS st 4) else (d.1, ⟨st.l.drop d.2.1, st.e⟩)
def zag (v : Nat) : Int := if v % 2 = 1 then -((v / 2 : Nat) : Int) - 1 else ((v / 2 : Nat) : Int)
def intR (st : RS) : Int × RS := let r := uintR 18446744073709551615 st; (zag r.1, r.2)
def bytesR (n : Nat) (st : RS) : List Int × RS := if st.l.length < n then ([], giveS st 1) else (st.l.take n, ⟨st.l.drop n, st.e⟩)
def textR (most : Nat) (st : RS) : List Int × RS := let r := uintR most st; bytesR r.1 r.2
def byteR (st : RS) : Int × RS := let r := bytesR 1 st; (r.1.headD 0, r.2)
/-- The number of bytes, the least first. -/
def ofBytes : List Int → Nat
  | [] => 0
  | x :: l => x.toNat + 256 * ofBytes l
def wordR (st : RS) : Nat × RS := let r := bytesR 8 st; (ofBytes r.1, r.2)
def endE (st : RS) : Int := if st.e = 0 ∧ st.l ≠ [] then 2 else st.e

/-- A reader that gave up has nothing left. -/
def RS.ok (st : RS) : Prop := (st.e ≠ 0 → st.l = []) ∧ isB st.l
theorem giveS_ok {st : RS} (h : st.ok) (e : Int) : (giveS st e).ok := by unfold giveS; split; exact ⟨fun _ => rfl, isB.nil⟩; exact h
theorem giveS_gave {st : RS} (e : Int) (h : st.e ≠ 0) : giveS st e = st := by unfold giveS; rw [if_neg h]
theorem uintR_ok {st : RS} (h : st.ok) (m : Nat) : (uintR m st).2.ok := by
  unfold uintR; simp only; (repeat' split)
  · exact giveS_ok h _
  · exact giveS_ok h _
  · exact ⟨fun he => by have := h.1 he; simp [this], h.2.drop _⟩
theorem bytesR_ok {st : RS} (h : st.ok) (n : Nat) : (bytesR n st).2.ok := by
  unfold bytesR; split
  · exact giveS_ok h _
  · exact ⟨fun he => by have := h.1 he; simp [this], h.2.drop _⟩
theorem bytesR_isB {st : RS} (h : st.ok) (n : Nat) : isB (bytesR n st).1 := by
  unfold bytesR; split
  · exact isB.nil
  · exact h.2.take _
theorem uintR_le {st : RS} (m : Nat) : (uintR m st).1 ≤ m := by
  unfold uintR; simp only; (repeat' split) <;> simp; omega

end Go.Proofs.Ytmpnopjkpamhaaa
