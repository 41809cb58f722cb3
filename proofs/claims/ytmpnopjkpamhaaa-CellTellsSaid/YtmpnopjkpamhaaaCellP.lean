/-
Cells, in plain words: what is wrong with one, its bytes, what is taken of any bytes; what is put is taken as it was, and from no other bytes.
-/
import Derived.Test.YtmpnopjkpamhaaaTakeW
namespace Go.Proofs.Ytmpnopjkpamhaaa
open Go.RowKit

/-- What is wrong with a cell in a column. -/
def rightC (k ty n x y : Int) (s : ByteArray) (kind : Int) : Int :=
  if kind < 1 ∨ 6 < kind then 11 else if 2 < k then 7
  else if k < 2 then (if ty = 0 ∧ n = 0 ∧ x = 0 ∧ y = 0 ∧ s.size = 0 then (if k = 1 ∧ kind ≠ 5 ∧ kind ≠ 6 then 11 else 0) else 3)
  else if rightV ty n x y s ≠ 0 then rightV ty n x y s else if ty ≠ kind then 11 else 0
def largeB (k ty : Int) (s : ByteArray) : Bool := decide (k = 2 ∧ (ty = 5 ∨ ty = 6) ∧ 64 < s.size)
/-- What is wrong with putting a cell; its bytes. -/
def errC (k ty n x y : Int) (s : ByteArray) (kind ver : Int) : Int :=
  if ver = 1 ∨ ver = 2 then (if rightC k ty n x y s kind ≠ 0 then rightC k ty n x y s kind else if k = 0 then 12 else 0) else 18
def putC (k ty n : Int) (x y : Nat) (s : ByteArray) (kind ver : Int) : List Int :=
  if k = 1 then [0] else if largeB k ty s = true then (3 - ver) :: sevens s.size
  else if ver = 2 then (if kind = 5 ∨ kind = 6 then sevens (s.size + 2) ++ strL s else putL ty n x y s 2) else 1 :: putL ty n x y s 1

theorem errC_zero {k ty n x y : Int} {s : ByteArray} {kind ver : Int} (hk0 : 0 ≤ k) (h : errC k ty n x y s kind ver = 0) :
    (ver = 1 ∨ ver = 2) ∧ rightC k ty n x y s kind = 0 ∧ (k = 1 ∨ k = 2) ∧ (1 ≤ kind ∧ kind ≤ 6) := by
  unfold errC at h
  by_cases hv : ver = 1 ∨ ver = 2
  · rw [if_pos hv] at h
    by_cases hr : rightC k ty n x y s kind = 0
    · rw [if_neg (by simpa using hr)] at h
      refine ⟨hv, hr, ?_⟩
      have hr2 := hr
      unfold rightC at hr2
      (repeat' split at hr2) <;> (repeat' split at h) <;> first | omega | (exfalso; omega)
    · rw [if_pos hr] at h; exact absurd h hr
  · rw [if_neg hv] at h; cases h

/-- A cell. -/
structure K where
  k : Int
  v : V
def K.zero : K := ⟨0, V.zero⟩
def K.right (c : K) (kind : Int) : Int := rightC c.k c.v.ty c.v.n c.v.x c.v.y c.v.s kind
def K.err (c : K) (kind ver : Int) : Int := errC c.k c.v.ty c.v.n c.v.x c.v.y c.v.s kind ver
def K.put (c : K) (kind ver : Int) : List Int := putC c.k c.v.ty c.v.n c.v.x c.v.y c.v.s kind ver

theorem right_same {k ty n x y : Int} {s : ByteArray} {kind : Int} (hk : k < 2) (h : rightC k ty n x y s kind = 0) : ty = 0 ∧ n = 0 ∧ x = 0 ∧ y = 0 ∧ s.size = 0 ∧ (k = 1 → kind = 5 ∨ kind = 6) := by
  unfold rightC at h
  (repeat' split at h) <;> first | omega | (exfalso; omega)
theorem right_full {ty n x y : Int} {s : ByteArray} {kind : Int} (h : rightC 2 ty n x y s kind = 0) : rightV ty n x y s = 0 ∧ ty = kind := by
  unfold rightC at h
  (repeat' split at h) <;> first | omega | (exfalso; omega)
theorem right_mk {ty n x y : Int} {s : ByteArray} {kind : Int} (h : rightV ty n x y s = 0) (hk : ty = kind) : rightC 2 ty n x y s kind = 0 := by
  have := right_zero h
  unfold rightC
  (repeat' split) <;> first | rfl | omega | (exfalso; omega)

/-- How many bytes a large cell has. -/
def largeR (st : RS) : Nat × RS := let r := uintR 2048 st; (r.1, if r.1 ≤ 64 then giveS r.2 4 else r.2)
def fullT (kind : Int) : K := ⟨2, ⟨kind, 0, 0, 0, ByteArray.empty⟩⟩
def textK (kind : Int) (q : List Int × RS) : (K × Nat) × RS := ((⟨2, ⟨kind, 0, 0, 0, strOfNums q.1⟩⟩, 0), failS q.2 (rightV kind 0 (0 : Nat) (0 : Nat) (strOfNums q.1)))
def firstC (kind : Int) (st : RS) : (K × Nat) × RS :=
  let t := byteR st
  if t.2.e ≠ 0 then ((K.zero, 0), t.2)
  else if 2 < t.1 ∨ (t.1 ≠ 1 ∧ kind ≠ 5 ∧ kind ≠ 6) then ((K.zero, 0), giveS t.2 7)
  else if t.1 = 0 then ((⟨1, V.zero⟩, 0), t.2)
  else if t.1 = 2 then let q := largeR t.2; ((fullT kind, q.1), q.2)
  else if kind = 5 ∨ kind = 6 then textK kind (textR 64 t.2)
  else let q := takeV kind 1 t.2; ((⟨2, q.1⟩, 0), q.2)
def secondC (kind : Int) (st : RS) : (K × Nat) × RS :=
  let t := uintR 66 st
  if t.2.e ≠ 0 then ((K.zero, 0), t.2)
  else if t.1 = 0 then ((⟨1, V.zero⟩, 0), t.2)
  else if t.1 = 1 then let q := largeR t.2; ((fullT kind, q.1), q.2)
  else textK kind (bytesR (t.1 - 2) t.2)
def preC (kind ver : Int) (st : RS) : (K × Nat) × RS :=
  if ¬ (ver = 1 ∨ ver = 2) then ((K.zero, 0), giveS st 18)
  else if kind < 1 ∨ 6 < kind then ((K.zero, 0), giveS st 11)
  else if ver = 1 then firstC kind st
  else if kind = 5 ∨ kind = 6 then secondC kind st
  else let q := takeV kind 2 st; ((⟨2, q.1⟩, 0), q.2)
def finC (r : (K × Nat) × RS) : (K × Nat) × RS := if r.2.e ≠ 0 then ((K.zero, 0), r.2) else r
/-- The next cell of a column, and how many bytes a large one has. -/
def takeC (kind ver : Int) (st : RS) : (K × Nat) × RS := finC (preC kind ver st)

theorem byteR_cons (x : Int) (l : List Int) (e : Int) : byteR ⟨x :: l, e⟩ = (x, ⟨l, e⟩) := by
  unfold byteR bytesR; simp
theorem finC_ok {r : (K × Nat) × RS} (h : r.2.e = 0) : finC r = r := by unfold finC; rw [if_neg (by simpa using h)]
theorem largeR_put {x : Nat} (l : List Int) (h : 64 < x) (h2 : x ≤ 2048) : largeR ⟨sevens x ++ l, 0⟩ = (x, ⟨l, 0⟩) := by
  unfold largeR
  simp only [uintR_sevens l (show x < 2 ^ 64 by omega) h2]
  rw [if_neg (by omega)]
theorem largeR_inv {b l : List Int} {x : Nat} (hb : isB b) (h : largeR ⟨b, 0⟩ = (x, ⟨l, 0⟩)) : b = sevens x ++ l ∧ 64 < x ∧ x ≤ 2048 := by
  unfold largeR at h
  simp only [Prod.mk.injEq] at h
  obtain ⟨h1, h2⟩ := h
  by_cases h64 : (uintR 2048 ⟨b, 0⟩).1 ≤ 64
  · rw [if_pos h64] at h2
    have := congrArg RS.e h2
    exact absurd this (giveS_e (by decide))
  · rw [if_neg h64] at h2
    obtain ⟨h3, -, h4⟩ := uintR_inv hb (Prod.ext h1 h2)
    exact ⟨h3, by omega, h4⟩
theorem textK_right {kind : Int} {s : ByteArray} {l : List Int} (h : rightV kind 0 (0 : Nat) (0 : Nat) s = 0) : textK kind (strL s, ⟨l, 0⟩) = ((⟨2, ⟨kind, 0, 0, 0, s⟩⟩, 0), ⟨l, 0⟩) := by
  unfold textK failS
  simp only [strOf_strL, h]
  rw [if_neg (by decide)]

/-- The text of a large cell is not taken. -/
def K.taken (c : K) : K × Nat := if largeB c.k c.v.ty c.v.s = true then (fullT c.v.ty, c.v.s.size) else (c, 0)

theorem takeC_put (c : K) (kind ver : Int) (l : List Int) (hk0 : 0 ≤ c.k) (he : c.err kind ver = 0) (hw : c.v.wf) : takeC kind ver ⟨c.put kind ver ++ l, 0⟩ = (c.taken, ⟨l, 0⟩) := by
  obtain ⟨hv, hr, hk, hkd⟩ := errC_zero hk0 he
  obtain ⟨k, v⟩ := c
  simp only [K.put, K.taken] at *
  unfold takeC preC
  rw [if_neg (fun h => h hv), if_neg (by omega)]
  rcases hk with rfl | rfl
  · obtain ⟨h1, h2, h3, h4, h5, h6⟩ := right_same (by decide) hr
    have hty := h6 rfl
    have hz : v = V.zero := by
      obtain ⟨ty, n, x, y, s⟩ := v
      simp only at h1 h2 h3 h4 h5
      obtain rfl := h1
      obtain rfl := h2
      obtain rfl : x = 0 := by omega
      obtain rfl : y = 0 := by omega
      obtain rfl : s = ByteArray.empty := (size_zero s).2 h5
      rfl
    subst hz
    have hl : largeB 1 V.zero.ty V.zero.s = false := by decide
    rw [hl]
    have hp : putC 1 V.zero.ty V.zero.n V.zero.x V.zero.y V.zero.s kind ver = [0] := by unfold putC; rw [if_pos rfl]
    rw [hp]
    rcases hv with rfl | rfl
    · rw [if_pos rfl]
      unfold firstC
      rw [List.cons_append, byteR_cons]
      simp only [ne_eq, not_true_eq_false, if_false]
      rw [if_neg (by omega)]
      simp [finC]
    · rw [if_neg (by decide), if_pos hty]
      unfold secondC
      have := uintR_sevens (x := 0) (m := 66) l (by decide) (by decide)
      rw [sevens_lt (by decide)] at this
      simp only [Int.natCast_zero] at this
      rw [this]
      simp [finC]
  · obtain ⟨h1, h2⟩ := right_full hr
    have hz := right_zero h1
    by_cases hL : largeB 2 v.ty v.s = true
    · rw [if_pos hL]
      have hp : putC 2 v.ty v.n v.x v.y v.s kind ver = (3 - ver) :: sevens v.s.size := by unfold putC; rw [if_neg (by decide), if_pos hL]
      rw [hp]
      unfold largeB at hL
      rw [decide_eq_true_eq] at hL
      obtain ⟨-, hty, h64⟩ := hL
      rw [h2] at hty
      rw [h2]
      rcases hv with rfl | rfl
      · rw [if_pos rfl]
        unfold firstC
        rw [List.cons_append, byteR_cons]
        simp only [ne_eq, not_true_eq_false, if_false]
        rw [if_neg (by omega), if_neg (by decide), if_pos (by decide), largeR_put l h64 hz.2.2.1]
        simp [finC]
      · rw [if_neg (by decide), if_pos hty]
        unfold secondC
        have := uintR_sevens (x := 1) (m := 66) (sevens v.s.size ++ l) (by decide) (by decide)
        rw [sevens_lt (by decide)] at this
        have e : ((3 - 2 : Int) :: sevens v.s.size) ++ l = [((1 : Nat) : Int)] ++ (sevens v.s.size ++ l) := rfl
        rw [e, this]
        simp only [ne_eq, not_true_eq_false, if_false, Nat.one_ne_zero, if_true]
        rw [largeR_put l h64 hz.2.2.1]
        simp [finC]
    · have hp1 : putC 2 v.ty v.n v.x v.y v.s kind 1 = 1 :: putL v.ty v.n v.x v.y v.s 1 := by unfold putC; rw [if_neg (by decide), if_neg hL, if_neg (by decide)]
      have hp2 : putC 2 v.ty v.n v.x v.y v.s kind 2 = if kind = 5 ∨ kind = 6 then sevens (v.s.size + 2) ++ strL v.s else putL v.ty v.n v.x v.y v.s 2 := by unfold putC; rw [if_neg (by decide), if_neg hL, if_pos rfl]
      rw [if_neg hL]
      unfold largeB at hL
      rw [decide_eq_true_eq] at hL
      have hT : kind = 5 ∨ kind = 6 → v = ⟨kind, 0, 0, 0, v.s⟩ ∧ v.s.size ≤ 64 := by
        intro hk
        obtain ⟨ty, n, x, y, s⟩ := v
        simp only at *
        obtain rfl := h2
        obtain rfl : n = 0 := by omega
        obtain rfl : x = 0 := by omega
        obtain rfl : y = 0 := by omega
        exact ⟨rfl, by rcases Nat.lt_or_ge 64 s.size with h | h; exact absurd ⟨by first | rfl | trivial, hk, h⟩ hL; exact h⟩
      rcases hv with rfl | rfl
      · rw [if_pos rfl, hp1]
        unfold firstC
        rw [List.cons_append, byteR_cons]
        simp only [ne_eq, not_true_eq_false, if_false]
        rw [if_neg (by first | omega | simp), if_neg (by decide), if_neg (by decide)]
        by_cases hty : kind = 5 ∨ kind = 6
        · rw [if_pos hty]
          obtain ⟨hv5, h64⟩ := hT hty
          have hp3 : putL v.ty v.n v.x v.y v.s 1 = sevens v.s.size ++ strL v.s := by
            unfold putL; rw [if_neg (by omega), if_neg (by omega), if_neg (by omega), if_neg (by omega)]
          rw [hp3, textR_put l h64 (by decide), textK_right]
          · rw [finC_ok rfl]; conv => rhs; rw [hv5]
          · rw [hv5] at h1; exact h1
        · rw [if_neg hty]
          have := takeV_put v 1 l (.inl rfl) h1 hw
          rw [h2] at this
          have e : putL v.ty v.n v.x v.y v.s 1 = v.put 1 := rfl
          rw [e, this]
          simp only
          rw [finC_ok rfl]
      · rw [if_neg (by decide), hp2]
        by_cases hty : kind = 5 ∨ kind = 6
        · rw [if_pos hty, if_pos hty]
          obtain ⟨hv5, h64⟩ := hT hty
          unfold secondC
          rw [List.append_assoc, uintR_sevens _ (by omega) (by omega)]
          simp only [ne_eq, not_true_eq_false, if_false]
          rw [if_neg (by omega), if_neg (by omega), Nat.add_sub_cancel, bytesR_put _ _ (strL_len v.s) 0, textK_right]
          · rw [finC_ok rfl]; conv => rhs; rw [hv5]
          · rw [hv5] at h1; exact h1
        · rw [if_neg hty, if_neg hty]
          have := takeV_put v 2 l (.inr rfl) h1 hw
          rw [h2] at this
          have e : putL v.ty v.n v.x v.y v.s 2 = v.put 2 := rfl
          rw [e, this]
          simp only
          rw [finC_ok rfl]

end Go.Proofs.Ytmpnopjkpamhaaa
