/-
The reference's Word, Uint, Zig, Text, turned, float.
-/
import Derived.Lib.ConvBytes
import Derived.Deep.AppendLies
import Derived.Laws.AppendOwnNone
import Derived.Test.YtjnafppkbhldlaaGreatP3
namespace Go.Proofs.YtjnafppkbhldlaaGreat
open Go.RowKit

end Go.Proofs.YtjnafppkbhldlaaGreat

/-
The reference's turned, float, Text, Put.
-/
namespace Go.Proofs.YtjnafppkbhldlaaGreat
open Go.RowKit

def rv (x : Nat) : Nat → Nat
  | 0 => 0
  | k + 1 => 256 * rv x k + x / 256 ^ k % 256
end Go.Proofs.YtjnafppkbhldlaaGreat

/-
The reference's Put of a complex number.
-/
namespace Go.Proofs.YtjnafppkbhldlaaGreat
open Go.RowKit

theorem OB.of_blk {w : World} {g : Nat} {l : List Int} {base n : Nat} (h : Blk w g (bs l).toArray 5) (hb : base ≤ g) (hn : n = l.length) (hl : l.length ≤ 1000000) : OB w base (.slice (some ⟨g, 0, none⟩) n n) l := by
  subst hn
  refine ⟨by rw [bs_len, Nat.mul_one], .inr ⟨g, l.length, (bs l).toArray, rfl, hb, h, Nat.le_refl _, by unfold maxLen; omega, by simp [bs], ?_⟩⟩
  rw [Nat.mul_one, List.toList_toArray, ← bs_len l, List.take_length]

end Go.Proofs.YtjnafppkbhldlaaGreat

/-
The reference's Put of a value.
-/
namespace Go.Proofs.YtjnafppkbhldlaaGreat
open Go.RowKit

end Go.Proofs.YtjnafppkbhldlaaGreat

/-
Appending bytes of any source to what a call owns.
-/
namespace Go.Proofs.YtjnafppkbhldlaaGreat
open Go.RowKit

/-- Bytes that append can read. -/
def NB (w : World) (u : Value) (m : List Int) : Prop := (u = .slice none 0 0 ∧ m = []) ∨ ∃ ad cap, u = .slice (some ad) m.length cap ∧ ∀ j z, (bs m)[j]? = some z → w.cell? (ad.add j) = some z
theorem NB.nil (w : World) : NB w (.slice none 0 0) [] := .inl ⟨rfl, rfl⟩
theorem NB.of_own {w : World} {base : Nat} {v : Value} {m : List Int} (h : OB w base v m) : NB w v m := by
  rcases h.2 with ⟨rfl, h0⟩ | ⟨g, cap, cur, rfl, _⟩
  · exact .inl ⟨rfl, List.length_eq_zero_iff.1 h0⟩
  · exact .inr ⟨_, cap, rfl, World.ownsRow.cells h rfl⟩
theorem NB.ext {w w1 : World} {v : Value} {m : List Int} (h : NB w v m) (hsz : ∀ ad len cap, v = .slice (some ad) len cap → 0 < len → ad.block < w.heap.size) (he : Ext w w1) : NB w1 v m := by
  rcases h with h | ⟨ad, cap, rfl, h⟩
  · exact .inl h
  · refine .inr ⟨ad, cap, rfl, fun j z hj => ?_⟩
    have hl : 0 < m.length := by
      rcases Nat.eq_zero_or_pos m.length with h0 | h0
      · have : m = [] := List.length_eq_zero_iff.1 h0
        subst this; simp [bs] at hj
      · exact h0
    have hb := hsz ad _ cap rfl hl
    rw [← h j z hj]
    exact Below.cell he (by unfold Addr.add; split <;> exact hb)

end Go.Proofs.YtjnafppkbhldlaaGreat

/-
Put of a value, the program's and the reference's: where it is right, and where it is wrong.
-/
namespace Go.Proofs.YtjnafppkbhldlaaGreat
open Go.RowKit

theorem err_zero {ty n x y : Int} {s : ByteArray} {ver : Int} (h : errV ty n x y s ver = 0) : (ver = 1 ∨ ver = 2) ∧ rightV ty n x y s = 0 := by
  unfold errV at h
  by_cases hv : ver = 1 ∨ ver = 2
  · rw [if_pos hv] at h; exact ⟨hv, h⟩
  · rw [if_neg hv] at h; cases h
theorem putL_len {ty n : Int} {x y : Nat} {s : ByteArray} {ver : Int} (h : errV ty n x y s ver = 0) (hn : -9223372036854775808 ≤ n ∧ n < 9223372036854775808) : (putL ty n x y s ver).length ≤ 3000 := by
  obtain ⟨hv, hr⟩ := err_zero h
  have hs := (right_zero hr).2.2.1
  have fx := floatL_len (x := x) (ver := ver)
  have fy := floatL_len (x := y) (ver := ver)
  have fx2 := floatL_len (x := x) (ver := 2)
  have fy2 := floatL_len (x := y) (ver := 2)
  have h1 := sevens_len10 (zig_lt n hn)
  have h2 := sevens_len10 (x := s.size) (by omega)
  have h3 := strL_len s
  unfold putL complexL
  (repeat' split) <;> (try simp only [List.length_append, List.length_cons, List.length_nil, wordL_len]) <;> omega

theorem vput_ok (v : Value) (l : List Int) (ty n : Int) (x y : Nat) (s : ByteArray) (ver : Int) (w : World) (h : errV ty n x y s ver = 0) (hl : Sl w v 1 (l.map bcell)) (hlen : l.length ≤ 800000) (hn : -9223372036854775808 ≤ n ∧ n < 9223372036854775808) (hx : x < 2 ^ 64) (hy : y < 2 ^ 64) (hs : s.size ≤ 9223372036854775807) :
    Calls Tryz.prog 301 #[v, .agg #[.int .u8 ty, .int .i64 n, .complex .f64 x y, .string s], .int .u8 ver] w fun e w' => ∃ v', e = .returned (.tuple #[v', .int .i64 0]) ∧ OB w' w.heap.size v' (l ++ putL ty n x y s ver) ∧ Ext w w' := by
  refine (vput_any v l ty n x y s ver w hl hlen hn hx hy hs).mono ?_
  rintro e w' ⟨v', rfl, h1, h2, h3⟩
  exact ⟨v', by rw [h], h1 h, h3⟩
end Go.Proofs.YtjnafppkbhldlaaGreat

/-
Bytes as strings.
-/
namespace Go.Proofs.YtjnafppkbhldlaaGreat
open Go.RowKit

/-- A row of bytes as a string. -/
theorem conv_Sl {w : World} {v : Value} {l : List Int} (h : Sl w v 1 (l.map bcell)) : (convert 27 9 v).run Tryz.prog w = .ok (.string (strOfNums l)) w := by
  have h0 := h
  obtain ⟨a, cap, rfl, hs⟩ := h
  rcases hs with hn | ⟨b, o, rfl, hb, hc⟩
  · have hl : l = [] := by simpa using hn
    subst hl
    cases a with
    | none => exact run_convert_bytes_nil w _ _ Tryz.underlying27 Tryz.underlying5 _ _ _ Tryz.underlying9
    | some ad =>
      rw [run_convert_bytes_string w _ _ _ _ _ _ Tryz.underlying27 Tryz.underlying5 Tryz.underlying9]
      have hl : (loadCells ad 0).run Tryz.prog w = .ok (([] : List Int).map (Value.int .u8)).toArray w := by
        have := run_loadCells_list (P := Tryz.prog) w ad [] (fun j v hj => by simp at hj)
        simpa using this
      exact run_bytesToString w ad 0 cap [] hl
  · simp only [List.length_map] at *
    refine run_convert_bytes_arg w _ _ Tryz.underlying27 Tryz.underlying5 b o _ cap l rfl (fun i hi => ?_) _ Tryz.underlying9
    exact (Sl.bytes h0 (by omega)).2.2 i hi

theorem fresh_bytes (w : World) (l : List Int) (n : Nat) (hn : n = l.length) : Sl (w.alloc (.cells (bs l).toArray 5)) (.slice (some ⟨w.heap.size, 0, none⟩) n n) 1 (l.map bcell) := by
  subst hn
  have := Sl.new w (bs l).toArray 5 1 l.length l.length (l.map bcell) (by rw [bs_flat]) (by intro xs hxs; simp at hxs; obtain ⟨x, _, rfl⟩ := hxs; rfl) (by simp)
  exact this

end Go.Proofs.YtjnafppkbhldlaaGreat

/-
What is put are bytes; two values of one type are the same just if their bytes are.
-/
namespace Go.Proofs.YtjnafppkbhldlaaGreat
open Go.RowKit

theorem isB_sevens : ∀ (k x : Nat), x ≤ k → isB (sevens x) := by
  intro k
  induction k using Nat.strongRecOn with
  | _ k ih =>
    intro x hx b hb
    by_cases h : x < 128
    · rw [sevens_lt h] at hb; simp at hb; omega
    · rw [sevens_ge h] at hb
      rcases List.mem_cons.1 hb with rfl | hb
      · omega
      · exact ih (x / 128) (by omega) _ (Nat.le_refl _) b hb
theorem isB_float (x : Nat) (ver : Int) : isB (floatL x ver) := by
  unfold floatL; split
  · exact isB_word _
  · exact isB_sevens _ _ (Nat.le_refl _)
theorem isB_mark (x y : Nat) : isB [markOf x y] := by
  intro b hb
  simp only [List.mem_singleton] at hb
  subst hb; unfold markOf; split <;> split <;> omega
theorem isB_if {p : Prop} [Decidable p] {l : List Int} (h : isB l) : isB (if p then [] else l) := by split; exact isB.nil; exact h
theorem isB_complex (x y : Nat) (ver : Int) : isB (complexL x y ver) := by
  by_cases h : ver = 2
  · unfold complexL; rw [if_pos h]
    exact isB.append (isB.append (isB_mark _ _) (isB_if (isB_float _ _))) (isB_if (isB_float _ _))
  · unfold complexL; rw [if_neg h]
    exact isB.append (isB_float _ _) (isB_float _ _)
theorem isB_putL {ty n : Int} {x y : Nat} {s : ByteArray} {ver : Int} (h : rightV ty n x y s = 0) : isB (putL ty n x y s ver) := by
  have hz := right_zero h
  unfold putL
  (repeat' split)
  · intro b hb
    simp only [List.mem_singleton] at hb
    subst hb
    rcases hz.2.2.2.1 (by assumption) with h1 | h1 <;> omega
  · exact isB_word _
  · exact isB_sevens _ _ (Nat.le_refl _)
  · exact isB_float _ _
  · exact isB_complex _ _ _
  · exact isB.append (isB_sevens _ _ (Nat.le_refl _)) (isB_strL _)
end Go.Proofs.YtjnafppkbhldlaaGreat

/-
Readers, in plain words: runs of sevens; from no other bytes; cut anywhere too short.
-/
namespace Go.Proofs.YtjnafppkbhldlaaGreat
open Go.RowKit

/-! From no other bytes. -/
theorem giveS_e {st : RS} {e : Int} (he : e ≠ 0) : (giveS st e).e ≠ 0 := by unfold giveS; split; exact he; assumption
theorem RS.eta (st : RS) (h : st.e = 0) : st = ⟨st.l, 0⟩ := by cases st; simp only at h; subst h; rfl
/-! Cut anywhere. -/
end Go.Proofs.YtjnafppkbhldlaaGreat

/-
Cells, in plain words: what is wrong with one, its bytes, what is taken of any bytes; what is put is taken as it was, and from no other bytes.
-/
namespace Go.Proofs.YtjnafppkbhldlaaGreat
open Go.RowKit

/-- What is wrong with putting a cell; its bytes. -/
def errC (k ty n x y : Int) (s : ByteArray) (kind ver : Int) : Int :=
  if ver = 1 ∨ ver = 2 then (if rightC k ty n x y s kind ≠ 0 then rightC k ty n x y s kind else if k = 0 then 12 else 0) else 18
def putC (k ty n : Int) (x y : Nat) (s : ByteArray) (kind ver : Int) : List Int :=
  if k = 1 then [0] else if largeB k ty s = true then (3 - ver) :: sevens s.size
  else if ver = 2 then (if kind = 5 ∨ kind = 6 then sevens (s.size + 2) ++ strL s else putL ty n x y s 2) else 1 :: putL ty n x y s 1

theorem errC_zero {k ty n x y : Int} {s : ByteArray} {kind ver : Int} (hk0 : 0 ≤ k) (h : errC k ty n x y s kind ver = 0) :
    (ver = 1 ∨ ver = 2) ∧ rightC k ty n x y s kind = 0 ∧ (k = 1 ∨ k = 2) ∧ (1 ≤ kind ∧ kind ≤ 6) := by
  unfold errC at h
  by_cases hv : ver = 1 ∨ ver = 2
  · rw [if_pos hv] at h
    by_cases hr : rightC k ty n x y s kind = 0
    · rw [if_neg (by simpa using hr)] at h
      refine ⟨hv, hr, ?_⟩
      have hr2 := hr
      unfold rightC at hr2
      (repeat' split at hr2) <;> (repeat' split at h) <;> first | omega | (exfalso; omega)
    · rw [if_pos hr] at h; exact absurd h hr
  · rw [if_neg hv] at h; cases h

def K.err (c : K) (kind ver : Int) : Int := errC c.k c.v.ty c.v.n c.v.x c.v.y c.v.s kind ver
def K.put (c : K) (kind ver : Int) : List Int := putC c.k c.v.ty c.v.n c.v.x c.v.y c.v.s kind ver

/-- How many bytes a large cell has. -/
def largeR (st : RS) : Nat × RS := let r := uintR 2048 st; (r.1, if r.1 ≤ 64 then giveS r.2 4 else r.2)
def fullT (kind : Int) : K := ⟨2, ⟨kind, 0, 0, 0, ByteArray.empty⟩⟩
def textK (kind : Int) (q : List Int × RS) : (K × Nat) × RS := ((⟨2, ⟨kind, 0, 0, 0, strOfNums q.1⟩⟩, 0), failS q.2 (rightV kind 0 (0 : Nat) (0 : Nat) (strOfNums q.1)))
def firstC (kind : Int) (st : RS) : (K × Nat) × RS :=
  let t := byteR st
  if t.2.e ≠ 0 then ((K.zero, 0), t.2)
  else if 2 < t.1 ∨ (t.1 ≠ 1 ∧ kind ≠ 5 ∧ kind ≠ 6) then ((K.zero, 0), giveS t.2 7)
  else if t.1 = 0 then ((⟨1, V.zero⟩, 0), t.2)
  else if t.1 = 2 then let q := largeR t.2; ((fullT kind, q.1), q.2)
  else if kind = 5 ∨ kind = 6 then textK kind (textR 64 t.2)
  else let q := takeV kind 1 t.2; ((⟨2, q.1⟩, 0), q.2)
def secondC (kind : Int) (st : RS) : (K × Nat) × RS :=
  let t := uintR 66 st
  if t.2.e ≠ 0 then ((K.zero, 0), t.2)
  else if t.1 = 0 then ((⟨1, V.zero⟩, 0), t.2)
  else if t.1 = 1 then let q := largeR t.2; ((fullT kind, q.1), q.2)
  else textK kind (bytesR (t.1 - 2) t.2)
def preC (kind ver : Int) (st : RS) : (K × Nat) × RS :=
  if ¬ (ver = 1 ∨ ver = 2) then ((K.zero, 0), giveS st 18)
  else if kind < 1 ∨ 6 < kind then ((K.zero, 0), giveS st 11)
  else if ver = 1 then firstC kind st
  else if kind = 5 ∨ kind = 6 then secondC kind st
  else let q := takeV kind 2 st; ((⟨2, q.1⟩, 0), q.2)
def finC (r : (K × Nat) × RS) : (K × Nat) × RS := if r.2.e ≠ 0 then ((K.zero, 0), r.2) else r
/-- The next cell of a column, and how many bytes a large one has. -/
def takeC (kind ver : Int) (st : RS) : (K × Nat) × RS := finC (preC kind ver st)

theorem byteR_cons (x : Int) (l : List Int) (e : Int) : byteR ⟨x :: l, e⟩ = (x, ⟨l, e⟩) := by
  unfold byteR bytesR; simp
theorem finC_ok {r : (K × Nat) × RS} (h : r.2.e = 0) : finC r = r := by unfold finC; rw [if_neg (by simpa using h)]
theorem largeR_put {x : Nat} (l : List Int) (h : 64 < x) (h2 : x ≤ 2048) : largeR ⟨sevens x ++ l, 0⟩ = (x, ⟨l, 0⟩) := by
  unfold largeR
  simp only [uintR_sevens l (show x < 2 ^ 64 by omega) h2]
  rw [if_neg (by omega)]
theorem textK_right {kind : Int} {s : ByteArray} {l : List Int} (h : rightV kind 0 (0 : Nat) (0 : Nat) s = 0) : textK kind (strL s, ⟨l, 0⟩) = ((⟨2, ⟨kind, 0, 0, 0, s⟩⟩, 0), ⟨l, 0⟩) := by
  unfold textK failS
  simp only [strOf_strL, h]
  rw [if_neg (by decide)]

/-- The text of a large cell is not taken. -/
def K.taken (c : K) : K × Nat := if largeB c.k c.v.ty c.v.s = true then (fullT c.v.ty, c.v.s.size) else (c, 0)

theorem takeC_put (c : K) (kind ver : Int) (l : List Int) (hk0 : 0 ≤ c.k) (he : c.err kind ver = 0) (hw : c.v.wf) : takeC kind ver ⟨c.put kind ver ++ l, 0⟩ = (c.taken, ⟨l, 0⟩) := by
  obtain ⟨hv, hr, hk, hkd⟩ := errC_zero hk0 he
  obtain ⟨k, v⟩ := c
  simp only [K.put, K.taken] at *
  unfold takeC preC
  rw [if_neg (fun h => h hv), if_neg (by omega)]
  rcases hk with rfl | rfl
  · obtain ⟨h1, h2, h3, h4, h5, h6⟩ := right_same (by decide) hr
    have hty := h6 rfl
    have hz : v = V.zero := by
      obtain ⟨ty, n, x, y, s⟩ := v
      simp only at h1 h2 h3 h4 h5
      obtain rfl := h1
      obtain rfl := h2
      obtain rfl : x = 0 := by omega
      obtain rfl : y = 0 := by omega
      obtain rfl : s = ByteArray.empty := (size_zero s).2 h5
      rfl
    subst hz
    have hl : largeB 1 V.zero.ty V.zero.s = false := by decide
    rw [hl]
    have hp : putC 1 V.zero.ty V.zero.n V.zero.x V.zero.y V.zero.s kind ver = [0] := by unfold putC; rw [if_pos rfl]
    rw [hp]
    rcases hv with rfl | rfl
    · rw [if_pos rfl]
      unfold firstC
      rw [List.cons_append, byteR_cons]
      simp only [ne_eq, not_true_eq_false, if_false]
      rw [if_neg (by omega)]
      simp [finC]
    · rw [if_neg (by decide), if_pos hty]
      unfold secondC
      have := uintR_sevens (x := 0) (m := 66) l (by decide) (by decide)
      rw [sevens_lt (by decide)] at this
      simp only [Int.natCast_zero] at this
      rw [this]
      simp [finC]
  · obtain ⟨h1, h2⟩ := right_full hr
    have hz := right_zero h1
    by_cases hL : largeB 2 v.ty v.s = true
    · rw [if_pos hL]
      have hp : putC 2 v.ty v.n v.x v.y v.s kind ver = (3 - ver) :: sevens v.s.size := by unfold putC; rw [if_neg (by decide), if_pos hL]
      rw [hp]
      unfold largeB at hL
      rw [decide_eq_true_eq] at hL
      obtain ⟨-, hty, h64⟩ := hL
      rw [h2] at hty
      rw [h2]
      rcases hv with rfl | rfl
      · rw [if_pos rfl]
        unfold firstC
        rw [List.cons_append, byteR_cons]
        simp only [ne_eq, not_true_eq_false, if_false]
        rw [if_neg (by omega), if_neg (by decide), if_pos (by decide), largeR_put l h64 hz.2.2.1]
        simp [finC]
      · rw [if_neg (by decide), if_pos hty]
        unfold secondC
        have := uintR_sevens (x := 1) (m := 66) (sevens v.s.size ++ l) (by decide) (by decide)
        rw [sevens_lt (by decide)] at this
        have e : ((3 - 2 : Int) :: sevens v.s.size) ++ l = [((1 : Nat) : Int)] ++ (sevens v.s.size ++ l) := rfl
        rw [e, this]
        simp only [ne_eq, not_true_eq_false, if_false, Nat.one_ne_zero, if_true]
        rw [largeR_put l h64 hz.2.2.1]
        simp [finC]
    · have hp1 : putC 2 v.ty v.n v.x v.y v.s kind 1 = 1 :: putL v.ty v.n v.x v.y v.s 1 := by unfold putC; rw [if_neg (by decide), if_neg hL, if_neg (by decide)]
      have hp2 : putC 2 v.ty v.n v.x v.y v.s kind 2 = if kind = 5 ∨ kind = 6 then sevens (v.s.size + 2) ++ strL v.s else putL v.ty v.n v.x v.y v.s 2 := by unfold putC; rw [if_neg (by decide), if_neg hL, if_pos rfl]
      rw [if_neg hL]
      unfold largeB at hL
      rw [decide_eq_true_eq] at hL
      have hT : kind = 5 ∨ kind = 6 → v = ⟨kind, 0, 0, 0, v.s⟩ ∧ v.s.size ≤ 64 := by
        intro hk
        obtain ⟨ty, n, x, y, s⟩ := v
        simp only at *
        obtain rfl := h2
        obtain rfl : n = 0 := by omega
        obtain rfl : x = 0 := by omega
        obtain rfl : y = 0 := by omega
        exact ⟨rfl, by rcases Nat.lt_or_ge 64 s.size with h | h; exact absurd ⟨by first | rfl | trivial, hk, h⟩ hL; exact h⟩
      rcases hv with rfl | rfl
      · rw [if_pos rfl, hp1]
        unfold firstC
        rw [List.cons_append, byteR_cons]
        simp only [ne_eq, not_true_eq_false, if_false]
        rw [if_neg (by first | omega | simp), if_neg (by decide), if_neg (by decide)]
        by_cases hty : kind = 5 ∨ kind = 6
        · rw [if_pos hty]
          obtain ⟨hv5, h64⟩ := hT hty
          have hp3 : putL v.ty v.n v.x v.y v.s 1 = sevens v.s.size ++ strL v.s := by
            unfold putL; rw [if_neg (by omega), if_neg (by omega), if_neg (by omega), if_neg (by omega)]
          rw [hp3, textR_put l h64 (by decide), textK_right]
          · rw [finC_ok rfl]; conv => rhs; rw [hv5]
          · rw [hv5] at h1; exact h1
        · rw [if_neg hty]
          have := takeV_put v 1 l (.inl rfl) h1 hw
          rw [h2] at this
          have e : putL v.ty v.n v.x v.y v.s 1 = v.put 1 := rfl
          rw [e, this]
          simp only
          rw [finC_ok rfl]
      · rw [if_neg (by decide), hp2]
        by_cases hty : kind = 5 ∨ kind = 6
        · rw [if_pos hty, if_pos hty]
          obtain ⟨hv5, h64⟩ := hT hty
          unfold secondC
          rw [List.append_assoc, uintR_sevens _ (by omega) (by omega)]
          simp only [ne_eq, not_true_eq_false, if_false]
          rw [if_neg (by omega), if_neg (by omega), Nat.add_sub_cancel, bytesR_put _ _ (strL_len v.s) 0, textK_right]
          · rw [finC_ok rfl]; conv => rhs; rw [hv5]
          · rw [hv5] at h1; exact h1
        · rw [if_neg hty, if_neg hty]
          have := takeV_put v 2 l (.inr rfl) h1 hw
          rw [h2] at this
          have e : putL v.ty v.n v.x v.y v.s 2 = v.put 2 := rfl
          rw [e, this]
          simp only
          rw [finC_ok rfl]

end Go.Proofs.YtjnafppkbhldlaaGreat

/-
Rows in plain words: bytes, holes and their texts, filled.
-/
namespace Go.Proofs.YtjnafppkbhldlaaGreat
open Go.RowKit

/-- Which cells are null. -/
def nullsL (l : List K) : List Bool := l.map fun c => decide (c.k = 0)
theorem nullsL_len (l : List K) : (nullsL l).length = l.length := by simp [nullsL]
/-- The bytes of a row's cells. -/
def cellsPut (ver : Int) : List K → List Col → List Int
  | c :: l, d :: cols => (if c.k = 0 then [] else c.put d.ty ver) ++ cellsPut ver l cols
  | _, _ => []
theorem cellsPut_snoc (ver : Int) : ∀ (l : List K) (cols : List Col) (k : Nat) (h : k < l.length) (h2 : k < cols.length),
    cellsPut ver (l.take (k + 1)) (cols.take (k + 1)) = cellsPut ver (l.take k) (cols.take k) ++ (if l[k].k = 0 then [] else l[k].put cols[k].ty ver)
  | c :: l, d :: cols, 0, _, _ => by simp [cellsPut]
  | c :: l, d :: cols, k + 1, h, h2 => by
    have := cellsPut_snoc ver l cols k (by simpa using h) (by simpa using h2)
    simp only [List.take_succ_cons, cellsPut, this, List.getElem_cons_succ, List.append_assoc]
def rowPut (l : List K) (cols : List Col) (ver : Int) : List Int := mapL (nullsL l) ++ cellsPut ver l cols
/-- What is wrong with encoding. -/
def encE (l : List K) (r : Rl) (ver : Int) : Int := if ver = 1 ∨ ver = 2 then fitsE l r else 18

theorem fitsW_zero {l : List K} {r : Rl} (h : fitsE l r = 0) : r.right = 0 ∧ l.length = r.cols.length ∧ ∀ i (h1 : i < l.length) (h2 : i < r.cols.length), l[i].right r.cols[i].ty = 0 := by
  unfold fitsE at h
  by_cases h0 : r.right = 0
  · rw [if_neg (by simpa using h0)] at h
    by_cases h1 : l.length = r.cols.length
    · rw [if_neg (by simpa using h1)] at h
      refine ⟨h0, h1, fun i hi hj => ?_⟩
      have := firstE_all h i hi
      rwa [fitAt_lt hi hj] at this
    · rw [if_pos h1] at h; cases h
  · rw [if_pos h0] at h; exact absurd h h0
theorem fits_cols {l : List K} {r : Rl} (h : fitsE l r = 0) : r.cols.length ≤ 16 ∧ 1 ≤ r.cols.length := by
  have h0 := (fitsW_zero h).1
  unfold Rl.right at h0
  (repeat' split at h0) <;> first | omega | (exfalso; omega)
theorem err_of_right {c : K} {kind ver : Int} (h : c.right kind = 0) (hv : ver = 1 ∨ ver = 2) (hk : c.k ≠ 0) : c.err kind ver = 0 := by
  unfold K.err errC K.right at *
  rw [if_pos hv, if_neg (by simpa using h), if_neg hk]

/-- The large cells among the first k: places and texts. -/
def larges (l : List K) : Nat → List (Nat × ByteArray)
  | 0 => []
  | k + 1 => if h : k < l.length then (if largeB l[k].k l[k].v.ty l[k].v.s = true then larges l k ++ [(k, l[k].v.s)] else larges l k) else larges l k
theorem larges_yes {l : List K} {k : Nat} (hk : k < l.length) (h : largeB l[k].k l[k].v.ty l[k].v.s = true) : larges l (k + 1) = larges l k ++ [(k, l[k].v.s)] := by
  conv => lhs; unfold larges
  rw [dif_pos hk, if_pos h]
theorem larges_no {l : List K} {k : Nat} (hk : k < l.length) (h : largeB l[k].k l[k].v.ty l[k].v.s = false) : larges l (k + 1) = larges l k := by
  conv => lhs; unfold larges
  rw [dif_pos hk, if_neg (by rw [h]; simp)]
theorem larges_len (l : List K) : ∀ k, (larges l k).length ≤ k
  | 0 => Nat.le_refl _
  | k + 1 => by
    have := larges_len l k
    unfold larges
    split
    · split
      · rw [List.length_append, List.length_singleton]; omega
      · omega
    · omega
def textC (x : Nat × ByteArray) : List Value := [.string x.2]

/-- A hole: a column and a size. -/
structure Ho where
  c : Int
  n : Int
def Ho.cells (h : Ho) : List Value := [.int .i64 h.c, .int .i64 h.n]
def strC (s : ByteArray) : List Value := [.string s]
/-- A row with one text set. -/
def setText (l : List K) (i : Nat) (s : ByteArray) : List K := if h : i < l.length then l.set i ⟨l[i].k, { l[i].v with s := s }⟩ else l
theorem setText_len (l : List K) (i : Nat) (s : ByteArray) : (setText l i s).length = l.length := by unfold setText; split <;> simp
/-- The row while it is filled: of the first k holes. -/
def fillUp (l : List K) (hs : List Ho) (ts : List ByteArray) : Nat → List K
  | 0 => l
  | k + 1 => if h : k < hs.length ∧ k < ts.length then setText (fillUp l hs ts k) (hs[k]'h.1).c.toNat (ts[k]'h.2) else fillUp l hs ts k
theorem fillUp_succ {l : List K} {hs : List Ho} {ts : List ByteArray} {k : Nat} (h1 : k < hs.length) (h2 : k < ts.length) : fillUp l hs ts (k + 1) = setText (fillUp l hs ts k) hs[k].c.toNat ts[k] := by
  conv => lhs; unfold fillUp
  rw [dif_pos ⟨h1, h2⟩]
theorem fillUp_len (l : List K) (hs : List Ho) (ts : List ByteArray) : ∀ k, (fillUp l hs ts k).length = l.length
  | 0 => rfl
  | k + 1 => by
    unfold fillUp
    split
    · rw [setText_len, fillUp_len l hs ts k]
    · exact fillUp_len l hs ts k
def holeBad (n : Nat) (hs : List Ho) (i : Nat) : Int := if h : i < hs.length then (if hs[i].c < 0 ∨ (n : Int) ≤ hs[i].c then 4 else 0) else 0
def sizeBad (hs : List Ho) (ts : List ByteArray) (i : Nat) : Int := if h : i < hs.length ∧ i < ts.length then (if ((ts[i]'h.2).size : Int) ≠ (hs[i]'h.1).n then 16 else 0) else 0
/-- What is wrong with filling; the row filled. -/
def fillE (l : List K) (hs : List Ho) (ts : List ByteArray) : Int :=
  if hs.length ≠ ts.length then 17 else if firstE (holeBad l.length hs) hs.length ≠ 0 then 4 else if firstE (sizeBad hs ts) hs.length ≠ 0 then 16 else 0
def fillW (l : List K) (hs : List Ho) (ts : List ByteArray) : List K := if fillE l hs ts = 0 then fillUp l hs ts hs.length else []

end Go.Proofs.YtjnafppkbhldlaaGreat
