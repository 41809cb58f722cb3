/-
Plain facts on IEEE doubles that stand for integers: reading, writing, sums, products, comparisons, truncation. No program is in sight.
-/
import Derived.Test.YtdbepkfblfhlhaaP16
import Derived.Laws.FloatArith
import Derived.Laws.FloatBits
namespace Go.Proofs.Ytdbepkfblfhlhaa.Fl
open Ieee

def sgn (s : Bool) (m : Nat) : Int := if s then -(m : Int) else (m : Int)

theorem signed_eq (s : Bool) (m u : Nat) : signed s m u = sgn s m * 2 ^ u := by
  unfold signed sgn
  rw [Nat.shiftLeft_eq]
  cases s <;> simp [Int.natCast_mul, Int.natCast_pow, Int.neg_mul]

theorem sgn_abs (n : Int) : sgn (n < 0) n.natAbs = n := by
  unfold sgn
  by_cases h : n < 0 <;> simp [h] <;> omega

theorem natAbs_sgn (s : Bool) (m : Nat) : (sgn s m).natAbs = m := by
  unfold sgn; cases s <;> simp

theorem sgn_neg (s : Bool) (m : Nat) (h : m ≠ 0) : decide (sgn s m < 0) = s := by
  unfold sgn; cases s <;> simp <;> omega

/-- The datum stands for the integer n. -/
def Is (d : Datum) (n : Int) : Prop := ∃ s m e, d = .number s m e ∧ ∀ k : Nat, 0 ≤ e + k → sgn s m * 2 ^ (e + k).toNat = n * 2 ^ k

theorem two_pow_ne (k : Nat) : (2 : Int) ^ k ≠ 0 := by
  have := Int.pow_pos (n := 2) (m := k) (by decide)
  omega

theorem two_pow_pos (k : Nat) : (0 : Int) < 2 ^ k := Int.pow_pos (by decide)

/-- One scale decides all. -/
theorem scale_one {x n : Int} {e : Int} {K : Nat} (hK : 0 ≤ e + K) (h : x * 2 ^ (e + K).toNat = n * 2 ^ K) : ∀ k : Nat, 0 ≤ e + k → x * 2 ^ (e + k).toNat = n * 2 ^ k := by
  intro k hk
  by_cases hle : k ≤ K
  · refine Int.eq_of_mul_eq_mul_right (a := 2 ^ (K - k)) (two_pow_ne _) ?_
    rw [Int.mul_assoc, Int.mul_assoc, ← Int.pow_add, ← Int.pow_add]
    have h1 : (e + k).toNat + (K - k) = (e + K).toNat := by omega
    have h2 : k + (K - k) = K := by omega
    rw [h1, h2, h]
  · have h1 : (e + k).toNat = (e + K).toNat + (k - K) := by omega
    have h2 : k = K + (k - K) := by omega
    rw [h1, Int.pow_add, ← Int.mul_assoc, h, Int.mul_assoc, ← Int.pow_add, ← h2]

theorem Is.unique {d : Datum} {a b : Int} (ha : Is d a) (hb : Is d b) : a = b := by
  obtain ⟨s, m, e, rfl, h⟩ := ha
  obtain ⟨s', m', e', he, h'⟩ := hb
  cases he
  have h1 := h (-e).toNat (by omega)
  have h2 := h' (-e).toNat (by omega)
  rw [h1] at h2
  exact Int.eq_of_mul_eq_mul_right (two_pow_ne _) h2

theorem Is.number (n : Int) : Is (.number (n < 0) n.natAbs 0) n :=
  ⟨_, _, _, rfl, fun k _ => by rw [sgn_abs]; congr 2; omega⟩

theorem Is.zero (s : Bool) (e : Int) : Is (.number s 0 e) 0 :=
  ⟨_, _, _, rfl, fun k _ => by unfold sgn; cases s <;> simp⟩

theorem Is.not_nan {d : Datum} {n : Int} (h : Is d n) : d.isNaN = false := by
  obtain ⟨s, m, e, rfl, _⟩ := h; rfl

theorem Is.sum {c d : Datum} {a b : Int} (ha : Is c a) (hb : Is d b) : ∃ r, c.sum d = some r ∧ Is r (a + b) := by
  obtain ⟨s, m, i, rfl, h⟩ := ha
  obtain ⟨t, n, j, rfl, h'⟩ := hb
  refine ⟨_, rfl, _, _, _, rfl, ?_⟩
  intro k hk
  rw [signed_eq, signed_eq]
  have h1 := h k (by omega)
  have h2 := h' k (by omega)
  generalize hT : sgn s m * 2 ^ (i - min i j).toNat + sgn t n * 2 ^ (j - min i j).toNat = T
  have hT2 : T * 2 ^ (min i j + k).toNat = (a + b) * 2 ^ k := by
    rw [← hT, Int.add_mul, Int.add_mul, Int.mul_assoc, Int.mul_assoc, ← Int.pow_add, ← Int.pow_add]
    have e1 : (i - min i j).toNat + (min i j + k).toNat = (i + k).toNat := by omega
    have e2 : (j - min i j).toNat + (min i j + k).toNat = (j + k).toNat := by omega
    rw [e1, e2, h1, h2]
  by_cases hz : T = 0
  · subst hz
    simp only [if_true, Int.natAbs_zero]
    rw [← hT2]
    unfold sgn; cases (s && t) <;> simp
  · rw [if_neg hz, sgn_abs, hT2]

theorem Is.product {c d : Datum} {a b : Int} (ha : Is c a) (hb : Is d b) : ∃ r, c.product d = some r ∧ Is r (a * b) := by
  obtain ⟨s, m, i, rfl, h⟩ := ha
  obtain ⟨t, n, j, rfl, h'⟩ := hb
  refine ⟨_, rfl, _, _, _, rfl, ?_⟩
  have h1 := h (i.natAbs + j.natAbs) (by omega)
  have h2 := h' (i.natAbs + j.natAbs) (by omega)
  refine scale_one (K := (i.natAbs + j.natAbs) + (i.natAbs + j.natAbs)) (by omega) ?_
  have e1 : (i + j + ((i.natAbs + j.natAbs) + (i.natAbs + j.natAbs) : Nat)).toNat = (i + (i.natAbs + j.natAbs : Nat)).toNat + (j + (i.natAbs + j.natAbs : Nat)).toNat := by omega
  have e3 : sgn (s ^^ t) (m * n) = sgn s m * sgn t n := by
    unfold sgn; cases s <;> cases t <;> simp [Int.natCast_mul, Int.neg_mul, Int.mul_neg]
  rw [e1, e3, Int.pow_add, Int.pow_add]
  calc sgn s m * sgn t n * (2 ^ (i + (i.natAbs + j.natAbs : Nat)).toNat * 2 ^ (j + (i.natAbs + j.natAbs : Nat)).toNat)
      = (sgn s m * 2 ^ (i + (i.natAbs + j.natAbs : Nat)).toNat) * (sgn t n * 2 ^ (j + (i.natAbs + j.natAbs : Nat)).toNat) := by
        simp only [Int.mul_assoc, Int.mul_left_comm]
    _ = (a * 2 ^ (i.natAbs + j.natAbs)) * (b * 2 ^ (i.natAbs + j.natAbs)) := by rw [h1, h2]
    _ = a * b * (2 ^ (i.natAbs + j.natAbs) * 2 ^ (i.natAbs + j.natAbs)) := by simp only [Int.mul_assoc, Int.mul_left_comm]

theorem Is.opposite {d : Datum} {n : Int} (h : Is d n) : Is d.opposite (-n) := by
  obtain ⟨s, m, e, rfl, h⟩ := h
  refine ⟨!s, m, e, rfl, fun k hk => ?_⟩
  have e3 : sgn (!s) m = - sgn s m := by unfold sgn; cases s <;> simp
  rw [e3, Int.neg_mul, h k hk, Int.neg_mul]

theorem compare_scale (x y : Int) (k : Nat) : compare (x * 2 ^ k) (y * 2 ^ k) = compare x y := by
  have hp := two_pow_pos k
  rcases Int.lt_trichotomy x y with h | h | h
  · rw [Int.compare_eq_lt.2 h, Int.compare_eq_lt.2 ((Int.mul_lt_mul_right hp).2 h)]
  · subst h; rw [Int.compare_eq_eq.2 rfl, Int.compare_eq_eq.2 rfl]
  · rw [Int.compare_eq_gt.2 h, Int.compare_eq_gt.2 ((Int.mul_lt_mul_right hp).2 h)]

/-- Two numbers by one scale. -/
theorem order_number (s t : Bool) (m n : Nat) (i j : Int) (k : Nat) (h1 : 0 ≤ i + k) (h2 : 0 ≤ j + k) :
    (Datum.number s m i).order (.number t n j) = some (compare (sgn s m * 2 ^ (i + k).toNat) (sgn t n * 2 ^ (j + k).toNat)) := by
  show some (compare (signed s m (i - min i j).toNat) (signed t n (j - min i j).toNat)) = _
  rw [signed_eq, signed_eq, ← compare_scale _ _ (min i j + k).toNat, Int.mul_assoc, Int.mul_assoc, ← Int.pow_add, ← Int.pow_add]
  have e1 : (i - min i j).toNat + (min i j + k).toNat = (i + k).toNat := by omega
  have e2 : (j - min i j).toNat + (min i j + k).toNat = (j + k).toNat := by omega
  rw [e1, e2]

theorem Is.order {c d : Datum} {a b : Int} (ha : Is c a) (hb : Is d b) : c.order d = some (compare a b) := by
  obtain ⟨s, m, i, rfl, h⟩ := ha
  obtain ⟨t, n, j, rfl, h'⟩ := hb
  rw [order_number s t m n i j (i.natAbs + j.natAbs) (by omega) (by omega), h _ (by omega), h' _ (by omega), compare_scale]

/-! ### Writing and reading -/

/-- The rung of N, 0 < N < 2^53. -/
def rung (N : Nat) : Nat := (N.log2 + 1022) * 2 ^ 52 + N * 2 ^ (52 - N.log2)

theorem log2_le52 {N : Nat} (h0 : N ≠ 0) (h : N < 2 ^ 53) : N.log2 ≤ 52 := by
  have := (Nat.log2_lt (k := 53) h0).2 h
  omega

theorem mant_bounds {N : Nat} (h0 : N ≠ 0) (h : N < 2 ^ 53) : 2 ^ 52 ≤ N * 2 ^ (52 - N.log2) ∧ N * 2 ^ (52 - N.log2) < 2 ^ 53 := by
  have hl := log2_le52 h0 h
  have h1 := Nat.log2_self_le h0
  have h2 := Nat.lt_log2_self (n := N)
  have hp : 0 < 2 ^ (52 - N.log2) := Nat.two_pow_pos _
  constructor
  · have e : 2 ^ 52 = 2 ^ N.log2 * 2 ^ (52 - N.log2) := by rw [← Nat.pow_add]; congr 1; omega
    rw [e]; exact Nat.mul_le_mul_right _ h1
  · have e : 2 ^ 53 = 2 ^ (N.log2 + 1) * 2 ^ (52 - N.log2) := by rw [← Nat.pow_add]; congr 1; omega
    rw [e]; exact Nat.mul_lt_mul_of_pos_right h2 hp

theorem rung_bounds {N : Nat} (h0 : N ≠ 0) (h : N < 2 ^ 53) : 2 ^ 52 ≤ rung N ∧ rung N < 2047 * 2 ^ 52 := by
  have hl := log2_le52 h0 h
  obtain ⟨h1, h2⟩ := mant_bounds h0 h
  unfold rung
  generalize N * 2 ^ (52 - N.log2) = M at *
  constructor
  · omega
  · have : (N.log2 + 1022) * 2 ^ 52 ≤ 1074 * 2 ^ 52 := Nat.mul_le_mul_right _ (by omega)
    omega

theorem read_rung (s : Bool) {N : Nat} (h0 : N ≠ 0) (h : N < 2 ^ 53) :
    double.read (double.word s (rung N)) = .number s (N * 2 ^ (52 - N.log2)) ((N.log2 : Int) - 52) := by
  obtain ⟨b1, b2⟩ := rung_bounds h0 h
  obtain ⟨m1, m2⟩ := mant_bounds h0 h
  have hl := log2_le52 h0 h
  have hw : double.word s (rung N) = (if s then 2 ^ 63 else 0) + rung N := by
    unfold Format.word; cases s <;> simp [double, Format.signWeight]
  have hneg : (double.word s (rung N) / double.signWeight % 2 == 1) = s := by
    rw [hw]; cases s <;> simp [double, Format.signWeight] <;> omega
  have hr : double.word s (rung N) % double.signWeight = rung N := by
    rw [hw]; cases s <;> simp [double, Format.signWeight] <;> omega
  unfold Format.read
  rw [hneg, hr]
  have q1 : double.binade = 2 ^ 52 := rfl
  have q2 : double.infRung = 2047 * 2 ^ 52 := by decide +kernel
  have q3 : double.leastPlace = -1074 := by decide +kernel
  have c1 : ¬ rung N < double.binade := by rw [q1]; omega
  have c2 : rung N < double.infRung := by rw [q2]; omega
  dsimp only
  rw [if_neg c1, if_pos c2, q1, q3]
  have hmod : rung N % 2 ^ 52 = N * 2 ^ (52 - N.log2) - 2 ^ 52 := by
    unfold rung; generalize N * 2 ^ (52 - N.log2) = M at *; omega
  have hdiv : rung N / 2 ^ 52 = N.log2 + 1023 := by
    unfold rung; generalize N * 2 ^ (52 - N.log2) = M at *; omega
  rw [hmod, hdiv]
  have e1 : 2 ^ 52 + (N * 2 ^ (52 - N.log2) - 2 ^ 52) = N * 2 ^ (52 - N.log2) := by omega
  have e2 : (-1074 + ((N.log2 + 1023 - 1 : Nat) : Int)) = (N.log2 : Int) - 52 := by omega
  rw [e1, e2]

theorem read_zero (s : Bool) : double.read (double.word s 0) = .number s 0 double.leastPlace := by
  cases s <;> decide +kernel

theorem is_rung (s : Bool) {N : Nat} (h0 : N ≠ 0) (h : N < 2 ^ 53) : Is (double.read (double.word s (rung N))) (sgn s N) := by
  rw [read_rung s h0 h]
  have hl := log2_le52 h0 h
  refine ⟨_, _, _, rfl, ?_⟩
  refine scale_one (K := 52 - N.log2) (by omega) ?_
  have e : ((N.log2 : Int) - 52 + (52 - N.log2 : Nat)).toNat = 0 := by omega
  rw [e, Int.pow_zero, Int.mul_one]
  unfold sgn; cases s <;> simp [Int.natCast_mul, Int.natCast_pow, Int.neg_mul]

theorem log2_mul_pow {N : Nat} (h0 : N ≠ 0) (k : Nat) : (N * 2 ^ k).log2 = N.log2 + k := by
  have hp : 0 < 2 ^ k := Nat.two_pow_pos _
  have hne : N * 2 ^ k ≠ 0 := Nat.mul_ne_zero h0 (by omega)
  rw [Nat.log2_eq_iff hne]
  have h1 := Nat.log2_self_le h0
  have h2 := Nat.lt_log2_self (n := N)
  constructor
  · rw [Nat.pow_add]; exact Nat.mul_le_mul_right _ h1
  · have e : N.log2 + k + 1 = (N.log2 + 1) + k := by omega
    rw [e, Nat.pow_add]; exact Nat.mul_lt_mul_of_pos_right h2 hp

theorem cut_exact (s : Bool) (q k d : Nat) (hd : d = k) (hq : q * 2 ^ k ≠ 0) : Toward.even.cut s (q * 2 ^ k) d = q := by
  subst hd
  have hq0 : q ≠ 0 := by intro h; simp [h] at hq
  have hlog := log2_mul_pow hq0 d
  unfold Toward.cut
  have hm : min d ((q * 2 ^ d).log2 + 2) = d := by omega
  simp only [hm, Nat.one_shiftLeft]
  have hp : 0 < 2 ^ d := Nat.two_pow_pos _
  rw [Nat.mul_mod_left, Nat.mul_div_cancel _ hp]
  have h1 : ¬ 2 ^ d < 2 * 0 := by omega
  have h2 : (2 ^ d == 2 * 0) = false := by
    rw [beq_eq_false_iff_ne]; omega
  simp

/-- What stands for N other than 0 is written as N's rung. -/
theorem nearest_is {s : Bool} {m : Nat} {e : Int} {n : Int} (h : ∀ k : Nat, 0 ≤ e + k → sgn s m * 2 ^ (e + k).toNat = n * 2 ^ k) (h0 : n ≠ 0) (hn : n.natAbs < 2 ^ 53) :
    double.nearest s m e = double.word (n < 0) (rung n.natAbs) := by
  have hN0 : n.natAbs ≠ 0 := by omega
  have hl := log2_le52 hN0 hn
  obtain ⟨b1, b2⟩ := rung_bounds hN0 hn
  obtain ⟨m1, m2⟩ := mant_bounds hN0 hn
  -- the magnitudes
  have habs : m * 2 ^ (e + (-e).toNat).toNat = n.natAbs * 2 ^ (-e).toNat := by
    have := congrArg Int.natAbs (h (-e).toNat (by omega))
    rw [Int.natAbs_mul, Int.natAbs_mul, natAbs_sgn, Int.natAbs_pow, Int.natAbs_pow] at this
    exact this
  have hm0 : m ≠ 0 := by
    intro hm; subst hm
    rw [Nat.zero_mul] at habs
    have := Nat.two_pow_pos (-e).toNat
    rcases Nat.mul_eq_zero.1 habs.symm with h | h <;> omega
  have hs : s = decide (n < 0) := by
    have hk := h (-e).toNat (by omega)
    have p1 := two_pow_pos (e + (-e).toNat).toNat
    have p2 := two_pow_pos (-e).toNat
    cases s with
    | false =>
      simp only [sgn, Bool.false_eq_true, if_false] at hk
      have : 0 < n * 2 ^ (-e).toNat := by rw [← hk]; exact Int.mul_pos (by omega) p1
      have := Int.pos_of_mul_pos_left this p2
      simp; omega
    | true =>
      simp only [sgn, if_true] at hk
      have h3 : 0 < -n * 2 ^ (-e).toNat := by rw [Int.neg_mul, ← hk, Int.neg_mul, Int.neg_neg]; exact Int.mul_pos (by omega) p1
      have := Int.pos_of_mul_pos_left h3 p2
      simp; omega
  unfold Format.nearest
  rw [if_neg hm0]
  have hlog : e + m.log2 = n.natAbs.log2 := by
    by_cases he : 0 ≤ e
    · have e1 : (-e).toNat = 0 := by omega
      have e2 : (e + (-e).toNat).toNat = e.toNat := by omega
      rw [e2, e1, Nat.pow_zero, Nat.mul_one] at habs
      rw [← habs, log2_mul_pow hm0]; omega
    · have e2 : (e + (-e).toNat).toNat = 0 := by omega
      rw [e2, Nat.pow_zero, Nat.mul_one] at habs
      rw [habs, log2_mul_pow hN0]; omega
  have hlast : max (e + m.log2 - (double.fractionBits : Int)) double.leastPlace = (n.natAbs.log2 : Int) - 52 := by
    have h1 : (double.fractionBits : Int) = 52 := rfl
    have h2 : double.leastPlace = -1074 := by decide +kernel
    rw [h1, h2]; omega
  dsimp only
  rw [hlast]
  have hkept : Toward.even.cut s (m <<< (e - ((n.natAbs.log2 : Int) - 52)).toNat) ((n.natAbs.log2 : Int) - 52 - e).toNat = n.natAbs * 2 ^ (52 - n.natAbs.log2) := by
    rw [Nat.shiftLeft_eq]
    by_cases hc : (n.natAbs.log2 : Int) - 52 ≤ e
    · have d0 : ((n.natAbs.log2 : Int) - 52 - e).toNat = 0 := by omega
      have hval : m * 2 ^ (e - ((n.natAbs.log2 : Int) - 52)).toNat = n.natAbs * 2 ^ (52 - n.natAbs.log2) := by
        have hk := h (52 - n.natAbs.log2) (by omega)
        have := congrArg Int.natAbs hk
        rw [Int.natAbs_mul, Int.natAbs_mul, natAbs_sgn, Int.natAbs_pow, Int.natAbs_pow] at this
        have e1 : (e - ((n.natAbs.log2 : Int) - 52)).toNat = (e + (52 - n.natAbs.log2 : Nat)).toNat := by omega
        rw [e1]; exact this
      rw [hval, d0]
      have := cut_exact s (n.natAbs * 2 ^ (52 - n.natAbs.log2)) 0 0 rfl (by rw [Nat.pow_zero, Nat.mul_one]; omega)
      rwa [Nat.pow_zero, Nat.mul_one] at this
    · have s0 : (e - ((n.natAbs.log2 : Int) - 52)).toNat = 0 := by omega
      rw [s0, Nat.pow_zero, Nat.mul_one]
      have e2 : (e + (-e).toNat).toNat = 0 := by omega
      rw [e2, Nat.pow_zero, Nat.mul_one] at habs
      have e3 : (-e).toNat = (52 - n.natAbs.log2) + ((n.natAbs.log2 : Int) - 52 - e).toNat := by omega
      rw [habs, e3, Nat.pow_add, ← Nat.mul_assoc]
      refine cut_exact s _ _ _ rfl ?_
      have p := Nat.two_pow_pos ((n.natAbs.log2 : Int) - 52 - e).toNat
      exact Nat.mul_ne_zero (by omega) (by omega)
  rw [hkept, hs]
  congr 1
  have h2 : double.leastPlace = -1074 := by decide +kernel
  have e4 : ((n.natAbs.log2 : Int) - 52 - double.leastPlace).toNat = n.natAbs.log2 + 1022 := by rw [h2]; omega
  rw [e4]
  have e5 : double.binade = 2 ^ 52 := rfl
  have e6 : double.infRung = 2047 * 2 ^ 52 := by decide +kernel
  have hr : (n.natAbs.log2 + 1022) * 2 ^ 52 + n.natAbs * 2 ^ (52 - n.natAbs.log2) = rung n.natAbs := rfl
  rw [e5, e6, hr]
  exact Nat.min_eq_left (Nat.le_of_lt b2)

/-- The word of an integer. -/
def fw (n : Int) : Nat := double.write (.number (n < 0) n.natAbs 0)

theorem fw_zero : fw 0 = 0 := by decide +kernel

theorem write_is {d : Datum} {n : Int} (h : Is d n) (h0 : n ≠ 0) (hn : n.natAbs < 2 ^ 53) : double.write d = fw n := by
  obtain ⟨s, m, e, rfl, hk⟩ := h
  obtain ⟨s', m', e', he, hk'⟩ := Is.number n
  cases he
  show double.nearest s m e = double.nearest _ _ _
  rw [nearest_is hk h0 hn, nearest_is hk' h0 hn]

/-- The word stands for the integer. -/
def FI (x : Nat) (n : Int) : Prop := Is (double.read x) n

theorem FI.write {d : Datum} {n : Int} (h : Is d n) (hn : n.natAbs < 2 ^ 53) : FI (double.write d) n := by
  obtain ⟨s, m, e, rfl, hk⟩ := h
  by_cases h0 : n = 0
  · subst h0
    have hm : m = 0 := by
      have := hk (-e).toNat (by omega)
      rw [Int.zero_mul] at this
      rcases Int.mul_eq_zero.1 this with h | h
      · have := congrArg Int.natAbs h; rw [natAbs_sgn] at this; simpa using this
      · exact absurd h (two_pow_ne _)
    subst hm
    show Is (double.read (double.nearest s 0 e)) 0
    unfold Format.nearest
    rw [if_pos rfl, read_zero]
    exact Is.zero _ _
  · show Is (double.read (double.nearest s m e)) n
    rw [nearest_is hk h0 hn]
    have := is_rung (decide (n < 0)) (N := n.natAbs) (by omega) hn
    rwa [sgn_abs] at this

theorem FI.fw (n : Int) (hn : n.natAbs < 2 ^ 53) : FI (fw n) n := FI.write (Is.number n) hn

theorem FI.unique {x : Nat} {a b : Int} (ha : FI x a) (hb : FI x b) : a = b := Is.unique ha hb

theorem FI.add {x y : Nat} {a b : Int} (ha : FI x a) (hb : FI y b) (h : (a + b).natAbs < 2 ^ 53) : ∃ z, double.add x y = some z ∧ FI z (a + b) := by
  obtain ⟨r, h1, h2⟩ := Is.sum ha hb
  exact ⟨_, by unfold Format.add; rw [h1]; rfl, FI.write h2 h⟩

theorem FI.sub {x y : Nat} {a b : Int} (ha : FI x a) (hb : FI y b) (h : (a - b).natAbs < 2 ^ 53) : ∃ z, double.sub x y = some z ∧ FI z (a - b) := by
  obtain ⟨r, h1, h2⟩ := Is.sum ha hb.opposite
  rw [← Int.sub_eq_add_neg] at h2
  exact ⟨_, by unfold Format.sub; rw [h1]; rfl, FI.write h2 h⟩

theorem FI.mul {x y : Nat} {a b : Int} (ha : FI x a) (hb : FI y b) (h : (a * b).natAbs < 2 ^ 53) : ∃ z, double.mul x y = some z ∧ FI z (a * b) := by
  obtain ⟨r, h1, h2⟩ := Is.product ha hb
  exact ⟨_, by unfold Format.mul; rw [h1]; rfl, FI.write h2 h⟩

theorem FI.order {x y : Nat} {a b : Int} (ha : FI x a) (hb : FI y b) : double.order x y = some (compare a b) := Is.order ha hb

theorem FI.eq {x y : Nat} {a b : Int} (ha : FI x a) (hb : FI y b) : (double.order x y == some .eq) = decide (a = b) := by
  rw [ha.order hb]
  by_cases h : a = b
  · subst h; simp
  · have : compare a b ≠ .eq := fun e => h (Int.compare_eq_eq.1 e)
    simp [h, this]

/-- The word with the sign turned. -/
theorem FI.neg {x : Nat} {n : Int} (h : FI x n) : ∃ z, z < 2 ^ 64 ∧ z = (x + 2 ^ 63) % 2 ^ 64 ∧ FI z (-n) := by
  refine ⟨_, Nat.mod_lt _ (by decide), rfl, ?_⟩
  have hs : double.signWeight = 2 ^ 63 := rfl
  have e : double.read ((x + 2 ^ 63) % 2 ^ 64) = (double.read x).opposite := by
    unfold Format.read
    rw [hs]
    have r : (x + 2 ^ 63) % 2 ^ 64 % 2 ^ 63 = x % 2 ^ 63 := by omega
    have g : ((x + 2 ^ 63) % 2 ^ 64 / 2 ^ 63 % 2 == 1) = !(x / 2 ^ 63 % 2 == 1) := by
      have : x / 2 ^ 63 % 2 = 0 ∨ x / 2 ^ 63 % 2 = 1 := by omega
      rcases this with h | h
      · have : (x + 2 ^ 63) % 2 ^ 64 / 2 ^ 63 % 2 = 1 := by omega
        rw [this, h]; rfl
      · have : (x + 2 ^ 63) % 2 ^ 64 / 2 ^ 63 % 2 = 0 := by omega
        rw [this, h]; rfl
    rw [r, g]
    dsimp only
    split
    · rfl
    · split
      · rfl
      · split <;> rfl
  unfold FI
  rw [e]
  exact Is.opposite h

/-! ### Wholeness within a bound, as the program and as the reference ask it -/

/-- The word stands for an integer of at most this magnitude. -/
def Wh (x : Nat) (B : Int) : Prop := ∃ n, FI x n ∧ -B ≤ n ∧ n ≤ B

theorem read_abs (x : Nat) : double.read (x % 2 ^ 63) = match double.read x with
    | .number _ m e => .number false m e
    | .infinity _ => .infinity false
    | .nan _ f => .nan false f := by
  have hs : double.signWeight = 2 ^ 63 := rfl
  unfold Format.read
  rw [hs]
  have r : x % 2 ^ 63 % 2 ^ 63 = x % 2 ^ 63 := by omega
  have g : (x % 2 ^ 63 / 2 ^ 63 % 2 == 1) = false := by
    have : x % 2 ^ 63 / 2 ^ 63 % 2 = 0 := by omega
    rw [this]; rfl
  rw [r, g]
  dsimp only
  by_cases h1 : x % 2 ^ 63 < double.binade
  · rw [if_pos h1, if_pos h1]
  · rw [if_neg h1, if_neg h1]
    by_cases h2 : x % 2 ^ 63 < double.infRung
    · rw [if_pos h2, if_pos h2]
    · rw [if_neg h2, if_neg h2]
      by_cases h3 : x % 2 ^ 63 = double.infRung
      · rw [if_pos h3, if_pos h3]
      · rw [if_neg h3, if_neg h3]

/-- m * 2^e cut to a whole number. -/
def flr (m : Nat) (e : Int) : Nat := (m * 2 ^ e.toNat) / 2 ^ (-e).toNat

theorem cut_zero (s : Bool) (m : Nat) (e : Int) : Toward.zero.cut s (m <<< e.toNat) (-e).toNat = flr m e := by
  unfold Toward.cut flr
  simp only [Nat.shiftLeft_eq, Nat.one_mul, Bool.toNat_false, Nat.add_zero]
  by_cases h : (-e).toNat ≤ (m * 2 ^ e.toNat).log2 + 2
  · rw [Nat.min_eq_left h]
  · rw [Nat.min_eq_right (by omega)]
    have h2 := Nat.lt_log2_self (n := m * 2 ^ e.toNat)
    have h3 : m * 2 ^ e.toNat < 2 ^ ((m * 2 ^ e.toNat).log2 + 2) := Nat.lt_of_lt_of_le h2 (Nat.pow_le_pow_right (by decide) (by omega))
    have h4 : m * 2 ^ e.toNat < 2 ^ (-e).toNat := Nat.lt_of_lt_of_le h3 (Nat.pow_le_pow_right (by decide) (by omega))
    rw [Nat.div_eq_of_lt h3, Nat.div_eq_of_lt h4]

theorem integral_zero (s : Bool) (m : Nat) (e : Int) : (Datum.number s m e).integral .zero = .number s (flr m e) 0 := by
  show Datum.number s (Toward.zero.cut s (m <<< e.toNat) (-e).toNat) 0 = _
  rw [cut_zero]

theorem Is.whole (s : Bool) (q : Nat) : Is (.number s q 0) (sgn s q) :=
  ⟨_, _, _, rfl, fun k _ => by congr 2; omega⟩

/-- The order of a number against an integer, at the scale that makes it whole. -/
theorem order_int (s : Bool) (m : Nat) (e : Int) {d : Datum} {n : Int} (h : Is d n) :
    (Datum.number s m e).order d = some (compare (sgn s m * 2 ^ e.toNat) (n * 2 ^ (-e).toNat)) := by
  obtain ⟨t, q, j, rfl, hk⟩ := h
  have h1 := hk ((-e).toNat + j.natAbs) (by omega)
  rw [order_number s t m q e j ((-e).toNat + j.natAbs) (by omega) (by omega), h1]
  have e1 : (e + ((-e).toNat + j.natAbs : Nat)).toNat = e.toNat + j.natAbs := by omega
  rw [e1, Int.pow_add, ← Int.mul_assoc, Int.pow_add, ← Int.mul_assoc, compare_scale]

theorem order_int' (s : Bool) (m : Nat) (e : Int) {d : Datum} {n : Int} (h : Is d n) :
    d.order (Datum.number s m e) = some (compare (n * 2 ^ (-e).toNat) (sgn s m * 2 ^ e.toNat)) := by
  obtain ⟨t, q, j, rfl, hk⟩ := h
  have h1 := hk ((-e).toNat + j.natAbs) (by omega)
  rw [order_number t s q m j e ((-e).toNat + j.natAbs) (by omega) (by omega), h1]
  have e1 : (e + ((-e).toNat + j.natAbs : Nat)).toNat = e.toNat + j.natAbs := by omega
  rw [e1, Int.pow_add, ← Int.mul_assoc, Int.pow_add, ← Int.mul_assoc, compare_scale]

theorem le_beq (a b : Int) : ((some (compare a b) == some Ordering.lt) || (some (compare a b) == some Ordering.eq)) = decide (a ≤ b) := by
  rcases Int.lt_trichotomy a b with h | h | h
  · rw [Int.compare_eq_lt.2 h]; simp; omega
  · subst h; rw [Int.compare_eq_eq.2 rfl]; simp
  · rw [Int.compare_eq_gt.2 h]; simp; omega

theorem ge_beq (a b : Int) : ((some (compare a b) == some Ordering.gt) || (some (compare a b) == some Ordering.eq)) = decide (b ≤ a) := by
  rcases Int.lt_trichotomy a b with h | h | h
  · rw [Int.compare_eq_lt.2 h]; simp; omega
  · subst h; rw [Int.compare_eq_eq.2 rfl]; simp
  · rw [Int.compare_eq_gt.2 h]; simp; omega

theorem eq_beq (a b : Int) : (some (compare a b) == some Ordering.eq) = decide (a = b) := by
  by_cases h : a = b
  · subst h; rw [Int.compare_eq_eq.2 rfl]; simp
  · have : compare a b ≠ .eq := fun e => h (Int.compare_eq_eq.1 e)
    simp [h, this]

/-- Is the number whole? -/
theorem is_iff (s : Bool) (m : Nat) (e : Int) (n : Int) : Is (.number s m e) n ↔ sgn s m * 2 ^ e.toNat = n * 2 ^ (-e).toNat := by
  constructor
  · rintro ⟨s', m', e', he, h⟩
    cases he
    have := h (-e).toNat (by omega)
    have e1 : (e + (-e).toNat).toNat = e.toNat := by omega
    rwa [e1] at this
  · intro h
    refine ⟨_, _, _, rfl, scale_one (K := (-e).toNat) (by omega) ?_⟩
    have e1 : (e + (-e).toNat).toNat = e.toNat := by omega
    rw [e1, h]

theorem flr_is {s : Bool} {m : Nat} {e : Int} {n : Int} (h : Is (.number s m e) n) : sgn s (flr m e) = n := by
  rw [is_iff] at h
  have ha := congrArg Int.natAbs h
  rw [Int.natAbs_mul, Int.natAbs_mul, natAbs_sgn, Int.natAbs_pow, Int.natAbs_pow] at ha
  have hf : flr m e = n.natAbs := by
    unfold flr
    have : m * (2 : Int).natAbs ^ e.toNat = m * 2 ^ e.toNat := rfl
    rw [this] at ha
    rw [ha]
    exact Nat.mul_div_cancel _ (Nat.two_pow_pos _)
  have p1 := two_pow_pos e.toNat
  have p2 := two_pow_pos (-e).toNat
  rw [hf]
  cases s with
  | false =>
    simp only [sgn, Bool.false_eq_true, if_false] at h ⊢
    have : 0 ≤ n * 2 ^ (-e).toNat := by rw [← h]; exact Int.mul_nonneg (by omega) (by omega)
    have : 0 ≤ n := by
      rcases Int.lt_or_le n 0 with hn | hn
      · have := Int.mul_neg_of_neg_of_pos hn p2; omega
      · exact hn
    omega
  | true =>
    simp only [sgn, if_true] at h ⊢
    have : n * 2 ^ (-e).toNat ≤ 0 := by
      rw [← h, Int.neg_mul]
      have := Int.mul_nonneg (a := (m : Int)) (b := 2 ^ e.toNat) (by omega) (by omega)
      omega
    have : n ≤ 0 := by
      rcases Int.lt_or_le 0 n with hn | hn
      · have := Int.mul_pos hn p2; omega
      · exact hn
    omega

/-- |x| is at most B: what is cut of it is at most B, too. -/
theorem flr_le {m : Nat} {e : Int} {B : Int} (h : (m : Int) * 2 ^ e.toNat ≤ B * 2 ^ (-e).toNat) (hB : 0 ≤ B) : (flr m e : Int) ≤ B := by
  obtain ⟨b, rfl⟩ := Int.eq_ofNat_of_zero_le hB
  have h' : m * 2 ^ e.toNat ≤ b * 2 ^ (-e).toNat := by
    have : ((m * 2 ^ e.toNat : Nat) : Int) ≤ ((b * 2 ^ (-e).toNat : Nat) : Int) := by
      rw [Int.natCast_mul, Int.natCast_mul, Int.natCast_pow, Int.natCast_pow]; exact h
    exact Int.ofNat_le.1 this
  unfold flr
  have := Nat.div_le_of_le_mul (m := m * 2 ^ e.toNat) (k := 2 ^ (-e).toNat) (n := b) (by rw [Nat.mul_comm _ b]; exact h')
  exact Int.ofNat_le.2 this

section
variable {B : Int} (hB0 : 0 ≤ B) (hB : B < 2 ^ 53)

include hB0 hB in
theorem is_bound : Is (double.read (fw B)) B := FI.fw B (by omega)
include hB0 hB in
theorem is_mbound : Is (double.read (fw (-B))) (-B) := FI.fw (-B) (by omega)

include hB0 hB in
/-- The program's first test: of what is no number, or beyond the bound, it says no. -/
theorem abs_le_number {x : Nat} (s : Bool) (m : Nat) (e : Int) (hx : double.read x = .number s m e) :
    ((double.order (x % 2 ^ 63) (fw B) == some .lt) || (double.order (x % 2 ^ 63) (fw B) == some .eq)) = decide ((m : Int) * 2 ^ e.toNat ≤ B * 2 ^ (-e).toNat) := by
  have hr := read_abs x
  rw [hx] at hr
  have : double.order (x % 2 ^ 63) (fw B) = some (compare ((m : Int) * 2 ^ e.toNat) (B * 2 ^ (-e).toNat)) := by
    unfold Format.order
    rw [hr]
    exact order_int false m e (is_bound hB0 hB)
  rw [this, le_beq]

include hB0 hB in
theorem abs_le_other {x : Nat} (hx : ∀ s m e, double.read x ≠ .number s m e) :
    ((double.order (x % 2 ^ 63) (fw B) == some .lt) || (double.order (x % 2 ^ 63) (fw B) == some .eq)) = false := by
  have hr := read_abs x
  obtain ⟨t, q, j, hb, _⟩ := is_bound hB0 hB
  unfold Format.order
  cases h : double.read x with
  | number s m e => exact absurd h (hx s m e)
  | infinity s => rw [h] at hr; rw [hr, hb]; rfl
  | nan s f => rw [h] at hr; rw [hr, hb]; rfl

theorem wh_other {x : Nat} (hx : ∀ s m e, double.read x ≠ .number s m e) : ¬ Wh x B := by
  rintro ⟨n, ⟨s, m, e, h, _⟩, _⟩
  exact hx s m e h

include hB0 in
theorem wh_big {x : Nat} {s : Bool} {m : Nat} {e : Int} (hx : double.read x = .number s m e) (h : ¬ (m : Int) * 2 ^ e.toNat ≤ B * 2 ^ (-e).toNat) : ¬ Wh x B := by
  rintro ⟨n, hn, h1, h2⟩
  unfold FI at hn
  rw [hx] at hn
  have hq := flr_is hn
  rw [is_iff] at hn
  apply h
  have ha := congrArg Int.natAbs hn
  rw [Int.natAbs_mul, Int.natAbs_mul, natAbs_sgn, Int.natAbs_pow, Int.natAbs_pow] at ha
  have h3 : n.natAbs ≤ B.natAbs := by omega
  have h4 : m * 2 ^ e.toNat ≤ B.natAbs * 2 ^ (-e).toNat := by
    have : m * (2 : Int).natAbs ^ e.toNat = m * 2 ^ e.toNat := rfl
    rw [← this, ha]; exact Nat.mul_le_mul_right _ h3
  have h5 := Int.ofNat_le.2 h4
  rw [Int.natCast_mul, Int.natCast_mul, Int.natCast_pow, Int.natCast_pow] at h5
  have h6 : (B.natAbs : Int) = B := by omega
  rw [h6] at h5
  exact h5

include hB0 hB in
/-- The second test, where the first said yes. -/
theorem trunc_eq {x : Nat} {s : Bool} {m : Nat} {e : Int} (hx : double.read x = .number s m e) (h : (m : Int) * 2 ^ e.toNat ≤ B * 2 ^ (-e).toNat) :
    (double.order x (double.write ((double.read x).integral .zero)) == some .eq) = true ↔ Wh x B := by
  have hq := flr_le h hB0
  have hw : Is (double.read (double.write (.number s (flr m e) 0))) (sgn s (flr m e)) := FI.write (Is.whole s _) (by rw [natAbs_sgn]; omega)
  have ho : double.order x (double.write ((double.read x).integral .zero)) = some (compare (sgn s m * 2 ^ e.toNat) (sgn s (flr m e) * 2 ^ (-e).toNat)) := by
    rw [hx, integral_zero]
    unfold Format.order
    rw [hx]
    exact order_int s m e hw
  rw [ho, eq_beq, decide_eq_true_eq]
  constructor
  · intro h1
    refine ⟨sgn s (flr m e), ?_, ?_⟩
    · unfold FI; rw [hx, is_iff]; exact h1
    · have := natAbs_sgn s (flr m e); omega
  · rintro ⟨n, hn, _, _⟩
    unfold FI at hn
    rw [hx] at hn
    have h1 := flr_is hn
    rw [h1]
    exact (is_iff _ _ _ _).1 hn

/-- The reference's bound. -/
theorem ref_ge {x : Nat} {s : Bool} {m : Nat} {e : Int} (hx : double.read x = .number s m e) (hB0 : 0 ≤ B) (hB : B < 2 ^ 53) :
    ((double.order x (fw (-B)) == some .gt) || (double.order x (fw (-B)) == some .eq)) = decide (-B * 2 ^ (-e).toNat ≤ sgn s m * 2 ^ e.toNat) := by
  have : double.order x (fw (-B)) = some (compare (sgn s m * 2 ^ e.toNat) (-B * 2 ^ (-e).toNat)) := by
    unfold Format.order; rw [hx]; exact order_int s m e (is_mbound hB0 hB)
  rw [this, ge_beq]

theorem ref_le {x : Nat} {s : Bool} {m : Nat} {e : Int} (hx : double.read x = .number s m e) (hB0 : 0 ≤ B) (hB : B < 2 ^ 53) :
    ((double.order x (fw B) == some .lt) || (double.order x (fw B) == some .eq)) = decide (sgn s m * 2 ^ e.toNat ≤ B * 2 ^ (-e).toNat) := by
  have : double.order x (fw B) = some (compare (sgn s m * 2 ^ e.toNat) (B * 2 ^ (-e).toNat)) := by
    unfold Format.order; rw [hx]; exact order_int s m e (is_bound hB0 hB)
  rw [this, le_beq]

theorem ref_both (s : Bool) (m : Nat) (e : Int) (hB0 : 0 ≤ B) :
    (-B * 2 ^ (-e).toNat ≤ sgn s m * 2 ^ e.toNat ∧ sgn s m * 2 ^ e.toNat ≤ B * 2 ^ (-e).toNat) ↔ (m : Int) * 2 ^ e.toNat ≤ B * 2 ^ (-e).toNat := by
  have p1 := two_pow_pos e.toNat
  have p2 := two_pow_pos (-e).toNat
  have h1 : 0 ≤ (m : Int) * 2 ^ e.toNat := Int.mul_nonneg (by omega) (by omega)
  have h2 : 0 ≤ B * 2 ^ (-e).toNat := Int.mul_nonneg hB0 (by omega)
  cases s
  · simp only [sgn, Bool.false_eq_true, if_false, Int.neg_mul]; omega
  · simp only [sgn, if_true, Int.neg_mul]; omega

theorem ref_other {x : Nat} (hx : ∀ s m e, double.read x ≠ .number s m e) (hB0 : 0 ≤ B) (hB : B < 2 ^ 53) :
    (((double.order x (fw (-B)) == some .gt) || (double.order x (fw (-B)) == some .eq)) && ((double.order x (fw B) == some .lt) || (double.order x (fw B) == some .eq))) = false := by
  obtain ⟨t, q, j, hb, _⟩ := is_bound hB0 hB
  obtain ⟨t', q', j', hb', _⟩ := is_mbound hB0 hB
  unfold Format.order
  cases h : double.read x with
  | number s m e => exact absurd h (hx s m e)
  | infinity s => rw [hb, hb']; cases s <;> rfl
  | nan s f => rw [hb, hb']; rfl

/-- The reference's cut. -/
theorem ref_int {x : Nat} {s : Bool} {m : Nat} {e : Int} (hx : double.read x = .number s m e) : (double.read x).toInt .zero = some (sgn s (flr m e)) := by
  unfold Datum.toInt
  rw [hx, integral_zero]
  show some (signed s (flr m e) 0) = _
  rw [signed_eq, Int.pow_zero, Int.mul_one]

theorem ref_eq {x : Nat} {s : Bool} {m : Nat} {e : Int} (hx : double.read x = .number s m e) (h : (m : Int) * 2 ^ e.toNat ≤ B * 2 ^ (-e).toNat) (hB0 : 0 ≤ B) (hB : B < 2 ^ 53) :
    (double.order (fw (sgn s (flr m e))) x == some .eq) = true ↔ Wh x B := by
  have hq := flr_le h hB0
  have hn := natAbs_sgn s (flr m e)
  have hw : Is (double.read (fw (sgn s (flr m e)))) (sgn s (flr m e)) := FI.fw _ (by omega)
  have ho : double.order (fw (sgn s (flr m e))) x = some (compare (sgn s (flr m e) * 2 ^ (-e).toNat) (sgn s m * 2 ^ e.toNat)) := by
    unfold Format.order; rw [hx]; exact order_int' s m e hw
  rw [ho, eq_beq, decide_eq_true_eq]
  constructor
  · intro h1
    refine ⟨sgn s (flr m e), ?_, by omega⟩
    unfold FI; rw [hx, is_iff]; exact h1.symm
  · rintro ⟨n, hn, _, _⟩
    unfold FI at hn
    rw [hx] at hn
    have h1 := flr_is hn
    rw [h1]
    exact ((is_iff _ _ _ _).1 hn).symm

end
end Go.Proofs.Ytdbepkfblfhlhaa.Fl
