/-
Taking a value, in plain words; what is put is taken as it was, and from no other bytes; cut anywhere it is too short.
-/
import Derived.Test.YtmpnopjkpamhaaaRead
namespace Go.Proofs.Ytmpnopjkpamhaaa
open Go.RowKit

/-- A value. -/
structure V where
  ty : Int
  n : Int
  x : Nat
  y : Nat
  s : ByteArray
def V.zero : V := ⟨0, 0, 0, 0, ByteArray.empty⟩
def V.right (v : V) : Int := rightV v.ty v.n v.x v.y v.s
def V.put (v : V) (ver : Int) : List Int := putL v.ty v.n v.x v.y v.s ver
def V.wf (v : V) : Prop := (-9223372036854775808 ≤ v.n ∧ v.n < 9223372036854775808) ∧ v.x < 2 ^ 64 ∧ v.y < 2 ^ 64

def toI64 (w : Nat) : Int := if w < 9223372036854775808 then (w : Int) else (w : Int) - 18446744073709551616
def floatR (ver : Int) (st : RS) : Nat × RS := if ver = 1 then wordR st else let r := uintR 18446744073709551615 st; (rev r.1, r.2)
def failS (st : RS) (e : Int) : RS := if e ≠ 0 then giveS st e else st
def partR (there : Bool) (st : RS) : Nat × RS := if there then let r := floatR 2 st; (r.1, if r.1 = 0 then giveS r.2 3 else r.2) else (0, st)
def complexR (ver : Int) (st : RS) : (Nat × Nat) × RS :=
  if ver = 1 then let a := wordR st; let b := wordR a.2; ((a.1, b.1), b.2)
  else let m := byteR st; let a := partR (decide (m.1 % 2 = 1)) (if 3 < m.1 then giveS m.2 4 else m.2); let b := partR (decide (m.1 / 2 % 2 = 1)) a.2; ((a.1, b.1), b.2)
def bodyR (kind ver : Int) (st : RS) : V × RS :=
  if kind = 1 then let r := byteR st; (⟨kind, r.1, 0, 0, ByteArray.empty⟩, r.2)
  else if kind = 2 then (if ver = 1 then let r := wordR st; (⟨kind, toI64 r.1, 0, 0, ByteArray.empty⟩, r.2) else let r := intR st; (⟨kind, r.1, 0, 0, ByteArray.empty⟩, r.2))
  else if kind = 3 then let r := floatR ver st; (⟨kind, 0, r.1, 0, ByteArray.empty⟩, r.2)
  else if kind = 4 then let r := complexR ver st; (⟨kind, 0, r.1.1, r.1.2, ByteArray.empty⟩, r.2)
  else if kind = 5 ∨ kind = 6 then let r := textR 2048 st; (⟨kind, 0, 0, 0, strOfNums r.1⟩, r.2)
  else (⟨kind, 0, 0, 0, ByteArray.empty⟩, st)
def takeV (kind ver : Int) (st : RS) : V × RS :=
  if ver = 1 ∨ ver = 2 then
    let r := bodyR kind ver st
    let st2 := failS r.2 r.1.right
    if st2.e ≠ 0 then (V.zero, st2) else (r.1, st2)
  else (V.zero, giveS st 18)

theorem failS_ok {st : RS} (h : st.ok) (e : Int) : (failS st e).ok := by unfold failS; split; exact giveS_ok h e; exact h
theorem wordR_ok {st : RS} (h : st.ok) : (wordR st).2.ok := bytesR_ok h 8
theorem byteR_ok {st : RS} (h : st.ok) : (byteR st).2.ok := bytesR_ok h 1
theorem floatR_ok {st : RS} (h : st.ok) (ver : Int) : (floatR ver st).2.ok := by unfold floatR; split; exact wordR_ok h; exact uintR_ok h _
theorem partR_ok {st : RS} (h : st.ok) (b : Bool) : (partR b st).2.ok := by
  unfold partR; split
  · simp only; split
    · exact giveS_ok (floatR_ok h 2) 3
    · exact floatR_ok h 2
  · exact h
theorem complexR_ok {st : RS} (h : st.ok) (ver : Int) : (complexR ver st).2.ok := by
  unfold complexR; split
  · exact wordR_ok (wordR_ok h)
  · refine partR_ok (partR_ok ?_ _) _
    split
    · exact giveS_ok (byteR_ok h) 4
    · exact byteR_ok h
theorem textR_ok {st : RS} (h : st.ok) (m : Nat) : (textR m st).2.ok := bytesR_ok (uintR_ok h m) _
theorem bodyR_ok {st : RS} (h : st.ok) (kind ver : Int) : (bodyR kind ver st).2.ok := by
  unfold bodyR; (repeat' split)
  · exact byteR_ok h
  · exact wordR_ok h
  · exact uintR_ok h _
  · exact floatR_ok h ver
  · exact complexR_ok h ver
  · exact textR_ok h 2048
  · exact h
theorem takeV_ok {st : RS} (h : st.ok) (kind ver : Int) : (takeV kind ver st).2.ok := by
  unfold takeV; split
  · simp only; split <;> exact failS_ok (bodyR_ok h kind ver) _
  · exact giveS_ok h 18

/-- Words. -/
theorem ofBytes_lt : ∀ l, isB l → ofBytes l < 256 ^ l.length := by
  intro l
  induction l with
  | nil => intro _; simp [ofBytes]
  | cons x l ih =>
    intro h
    have h1 := h.head
    have h2 := ih h.tail
    rw [ofBytes, List.length_cons, Nat.pow_succ, Nat.mul_comm (256 ^ l.length)]
    have : x.toNat < 256 := by omega
    omega
theorem ofBytes_word_go : ∀ (k : Nat) (x : Nat), ofBytes ((List.range k).map fun i => ((x / 256 ^ i % 256 : Nat) : Int)) = x % 256 ^ k := by
  intro k
  induction k with
  | zero => intro x; simp [ofBytes, Nat.mod_one]
  | succ k ih =>
    intro x
    rw [List.range_succ_eq_map, List.map_cons, List.map_map, ofBytes]
    have e : ((fun i => ((x / 256 ^ i % 256 : Nat) : Int)) ∘ Nat.succ) = fun i => ((x / 256 / 256 ^ i % 256 : Nat) : Int) := by
      funext i; simp only [Function.comp]; rw [Nat.pow_succ, Nat.mul_comm, ← Nat.div_div_eq_div_mul]
    rw [e, ih, Nat.pow_succ, Nat.mul_comm (256 ^ k), Nat.mod_mul]
    simp; omega
theorem wordL_nat (x : Nat) : wordL (x : Int) = (List.range 8).map fun i => ((x / 256 ^ i % 256 : Nat) : Int) := by
  unfold wordL byteAt
  refine List.map_congr_left fun i _ => ?_
  have h : ((2 : Int) ^ (8 * i)) = ((256 ^ i : Nat) : Int) := by rw [show (256 : Nat) = 2 ^ 8 from rfl, ← Nat.pow_mul, Int.natCast_pow]; rfl
  rw [h, Int.natCast_emod, Int.natCast_ediv]
  rfl
theorem ofBytes_word {x : Nat} (h : x < 2 ^ 64) : ofBytes (wordL (x : Int)) = x := by
  rw [wordL_nat, ofBytes_word_go, Nat.mod_eq_of_lt]; exact h
theorem isB_word (x : Int) : isB (wordL x) := by
  intro b hb
  simp only [wordL, byteAt, List.mem_map] at hb
  obtain ⟨k, _, rfl⟩ := hb
  omega
theorem word_inv_go : ∀ (l : List Int), isB l → ∀ r : Nat, (List.range l.length).map (fun i => (((ofBytes l + r * 256 ^ l.length) / 256 ^ i % 256 : Nat) : Int)) = l := by
  intro l
  induction l with
  | nil => intro _ _; rfl
  | cons x l ih =>
    intro h r
    have h1 := h.head
    rw [List.length_cons, List.range_succ_eq_map, List.map_cons, List.map_map]
    have e : ofBytes (x :: l) + r * 256 ^ (l.length + 1) = x.toNat + 256 * (ofBytes l + r * 256 ^ l.length) := by
      rw [ofBytes, Nat.pow_succ, Nat.mul_add, ← Nat.mul_assoc r, Nat.mul_comm (r * 256 ^ l.length)]; omega
    have e2 : ((fun i => (((ofBytes (x :: l) + r * 256 ^ (l.length + 1)) / 256 ^ i % 256 : Nat) : Int)) ∘ Nat.succ) = fun i => (((ofBytes l + r * 256 ^ l.length) / 256 ^ i % 256 : Nat) : Int) := by
      funext i; simp only [Function.comp]
      rw [e, Nat.pow_succ, Nat.mul_comm (256 ^ i), ← Nat.div_div_eq_div_mul, show (x.toNat + 256 * (ofBytes l + r * 256 ^ l.length)) / 256 = ofBytes l + r * 256 ^ l.length by omega]
    rw [e2, ih h.tail r, e]
    congr 1
    simp; omega
theorem word_inv {l : List Int} (h : isB l) (h8 : l.length = 8) : wordL (ofBytes l : Int) = l := by
  have := word_inv_go l h 0
  rw [wordL_nat]
  rw [h8] at this
  simpa using this
theorem ofBytes_lt64 {l : List Int} (h : isB l) (h8 : l.length ≤ 8) : ofBytes l < 2 ^ 64 := by
  have := ofBytes_lt l h
  have h2 : 256 ^ l.length ≤ 256 ^ 8 := Nat.pow_le_pow_right (by decide) h8
  have h3 : (256 : Nat) ^ 8 = 2 ^ 64 := by decide
  omega

/-- Signs. -/
theorem zag_zig {n : Int} : zag (zig n) = n := by unfold zag zig; split <;> split <;> omega
theorem zig_zag (v : Nat) : zig (zag v) = v := by unfold zag zig; split <;> split <;> omega
theorem zag_rng {v : Nat} (h : v < 2 ^ 64) : -9223372036854775808 ≤ zag v ∧ zag v < 9223372036854775808 := by unfold zag; split <;> omega
theorem toI64_rng {v : Nat} (h : v < 2 ^ 64) : -9223372036854775808 ≤ toI64 v ∧ toI64 v < 9223372036854775808 := by unfold toI64; split <;> omega
theorem toI64_mod {n : Int} (hn : -9223372036854775808 ≤ n ∧ n < 9223372036854775808) : toI64 (n % 18446744073709551616).toNat = n := by unfold toI64; split <;> omega
theorem mod_toI64 {v : Nat} (h : v < 2 ^ 64) : (toI64 v) % 18446744073709551616 = (v : Int) := by unfold toI64; split <;> omega

/-- What is put, read. -/
theorem uintR_sevens {x m : Nat} (l : List Int) (hx : x < 2 ^ 64) (hm : x ≤ m) : uintR m ⟨sevens x ++ l, 0⟩ = (x, ⟨l, 0⟩) := by
  unfold uintR
  have h := digs_sevens x x 0 0 l (Nat.le_refl _) (by simpa using hx) (fun h => by omega)
  simp only [Nat.pow_zero, Nat.mul_one, Nat.zero_add] at h
  simp only [h]
  rw [if_neg (by simp), if_neg (by omega)]
  simp
theorem bytesR_put {n : Nat} (m l : List Int) (h : m.length = n) (e : Int) : bytesR n ⟨m ++ l, e⟩ = (m, ⟨l, e⟩) := by
  unfold bytesR
  rw [if_neg (by simp; omega)]
  subst h; simp
theorem wordR_put {x : Nat} (l : List Int) (hx : x < 2 ^ 64) : wordR ⟨wordL (x : Int) ++ l, 0⟩ = (x, ⟨l, 0⟩) := by
  unfold wordR; rw [bytesR_put _ _ (wordL_len _)]; simp only [ofBytes_word hx]
theorem floatR_put {x : Nat} (l : List Int) (hx : x < 2 ^ 64) (ver : Int) : floatR ver ⟨floatL x ver ++ l, 0⟩ = (x, ⟨l, 0⟩) := by
  unfold floatR floatL
  by_cases h : ver = 1
  · rw [if_pos h, if_pos h]; exact wordR_put l hx
  · rw [if_neg h, if_neg h, uintR_sevens l rev_lt (by have := rev_lt (x := x); omega)]; simp only [rev_rev hx]
theorem partR_put {x : Nat} (l : List Int) (hx : x < 2 ^ 64) : partR (decide (x ≠ 0)) ⟨(if x = 0 then [] else floatL x 2) ++ l, 0⟩ = (x, ⟨l, 0⟩) := by
  unfold partR
  by_cases h : x = 0
  · simp [h]
  · simp only [h, ne_eq, not_false_eq_true, decide_true, if_true, if_false, floatR_put l hx 2]
theorem complexR_put {x y : Nat} (l : List Int) (hx : x < 2 ^ 64) (hy : y < 2 ^ 64) {ver : Int} (hv : ver = 1 ∨ ver = 2) : complexR ver ⟨complexL x y ver ++ l, 0⟩ = ((x, y), ⟨l, 0⟩) := by
  unfold complexR complexL
  rcases hv with rfl | rfl
  · rw [if_pos rfl, if_neg (by decide)]
    have e : ∀ z, floatL z 1 = wordL (z : Int) := fun z => by unfold floatL; rw [if_pos rfl]
    simp only [e, List.append_assoc, wordR_put _ hx, wordR_put _ hy]
  · rw [if_neg (by decide), if_pos rfl]
    have hb : byteR ⟨[markOf x y] ++ ((if x = 0 then [] else floatL x 2) ++ ((if y = 0 then [] else floatL y 2) ++ l)), 0⟩ = (markOf x y, ⟨(if x = 0 then [] else floatL x 2) ++ ((if y = 0 then [] else floatL y 2) ++ l), 0⟩) := by
      unfold byteR; rw [bytesR_put (n := 1) [markOf x y] _ rfl 0]; rfl
    have m1 : decide (markOf x y % 2 = 1) = decide (x ≠ 0) := by unfold markOf; split <;> split <;> simp_all
    have m2 : decide (markOf x y / 2 % 2 = 1) = decide (y ≠ 0) := by unfold markOf; split <;> split <;> simp_all
    have m3 : ¬ 3 < markOf x y := by unfold markOf; split <;> split <;> omega
    simp only [List.append_assoc, hb, m1, m2, if_neg m3, partR_put _ hx, partR_put _ hy]
theorem strOf_strL (s : ByteArray) : strOfNums (strL s) = s := by
  cases s with | mk d => simp [strOfNums, strL, Function.comp_def]
theorem strL_strOf {l : List Int} (h : isB l) : strL (strOfNums l) = l := by
  simp only [strL, strOfNums, List.map_map]
  conv => rhs; rw [← List.map_id l]
  refine List.map_congr_left fun x hx => ?_
  have := h x hx
  simp only [Function.comp, id, UInt8.toNat_ofNat']
  omega
theorem isB_strL (s : ByteArray) : isB (strL s) := by
  intro x hx
  simp only [strL, List.mem_map] at hx
  obtain ⟨b, _, rfl⟩ := hx
  have := b.toNat_lt
  omega
theorem textR_put {s : ByteArray} {m : Nat} (l : List Int) (h : s.size ≤ m) (hm : m < 2 ^ 64) : textR m ⟨sevens s.size ++ strL s ++ l, 0⟩ = (strL s, ⟨l, 0⟩) := by
  unfold textR
  rw [List.append_assoc, uintR_sevens _ (by omega) h]
  exact bytesR_put _ _ (strL_len s) 0

theorem takeV_put (v : V) (ver : Int) (l : List Int) (hv : ver = 1 ∨ ver = 2) (hr : v.right = 0) (hw : v.wf) : takeV v.ty ver ⟨v.put ver ++ l, 0⟩ = (v, ⟨l, 0⟩) := by
  obtain ⟨h1, h2, h3, h4, h5, h6, h7, h8, h9⟩ := right_zero hr
  obtain ⟨w1, w2, w3⟩ := hw
  have hb : bodyR v.ty ver ⟨v.put ver ++ l, 0⟩ = (v, ⟨l, 0⟩) := by
    obtain ⟨ty, n, x, y, s⟩ := v
    simp only at *
    have ht : ty = 1 ∨ ty = 2 ∨ ty = 3 ∨ ty = 4 ∨ ty = 5 ∨ ty = 6 := by omega
    unfold bodyR
    rcases ht with rfl | rfl | rfl | rfl | rfl | rfl
    · obtain rfl : x = 0 := by have := h6 (by decide) (by decide); omega
      obtain rfl : y = 0 := by have := h7 (by decide); omega
      obtain rfl : s = ByteArray.empty := (size_zero s).2 (h8 (by decide))
      rfl
    · obtain rfl : x = 0 := by have := h6 (by decide) (by decide); omega
      obtain rfl : y = 0 := by have := h7 (by decide); omega
      obtain rfl : s = ByteArray.empty := (size_zero s).2 (h8 (by decide))
      rcases hv with rfl | rfl
      · have e : V.put ⟨2, n, 0, 0, ByteArray.empty⟩ 1 = wordL (((n % 18446744073709551616).toNat : Nat) : Int) := by
          simp [V.put, putL]; congr 1; omega
        rw [e, if_neg (by decide), if_pos rfl, if_pos rfl]
        simp only [wordR_put l (show (n % 18446744073709551616).toNat < 2 ^ 64 by omega), toI64_mod w1]
      · have e : V.put ⟨2, n, 0, 0, ByteArray.empty⟩ 2 = sevens (zig n) := by
          simp [V.put, putL]
        have hz := zig_lt n w1
        rw [e, if_neg (by decide), if_pos rfl, if_neg (by decide)]
        simp only [intR, uintR_sevens l hz (show zig n ≤ 18446744073709551615 by omega), zag_zig]
    · obtain rfl : n = 0 := h5 (by decide)
      obtain rfl : y = 0 := by have := h7 (by decide); omega
      obtain rfl : s = ByteArray.empty := (size_zero s).2 (h8 (by decide))
      have e : V.put ⟨3, 0, x, 0, ByteArray.empty⟩ ver = floatL x ver := by
        simp [V.put, putL]
      rw [e, if_neg (by decide), if_neg (by decide), if_pos rfl]
      simp only [floatR_put l w2 ver]
    · obtain rfl : n = 0 := h5 (by decide)
      obtain rfl : s = ByteArray.empty := (size_zero s).2 (h8 (by decide))
      have e : V.put ⟨4, 0, x, y, ByteArray.empty⟩ ver = complexL x y ver := by
        simp [V.put, putL]
      rw [e, if_neg (by decide), if_neg (by decide), if_neg (by decide), if_pos rfl]
      simp only [complexR_put l w2 w3 hv]
    all_goals
      obtain rfl : n = 0 := h5 (by decide)
      obtain rfl : x = 0 := by have := h6 (by decide) (by decide); omega
      obtain rfl : y = 0 := by have := h7 (by decide); omega
      simp [V.put, putL, textR_put l h3 (show 2048 < 2 ^ 64 by decide), strOf_strL, -List.append_assoc]
  unfold takeV
  rw [if_pos hv]
  simp only [hb, hr, failS]
  rfl

/-- No two values have the same bytes. -/
theorem put_inj {a b : V} {ver : Int} (hv : ver = 1 ∨ ver = 2) (ha : a.right = 0) (hb : b.right = 0) (wa : a.wf) (wb : b.wf) (ht : a.ty = b.ty) (h : a.put ver = b.put ver) : a = b := by
  have h1 := takeV_put a ver [] hv ha wa
  have h2 := takeV_put b ver [] hv hb wb
  rw [h, ht, h2] at h1
  exact (Prod.ext_iff.1 h1).1.symm

end Go.Proofs.Ytmpnopjkpamhaaa
