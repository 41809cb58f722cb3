/-
The reference's Word, Uint, Zig, Text, turned, float.
-/
import Derived.Lib.ConvBytes
import Derived.Deep.AppendLies
import Derived.Laws.AppendOwnNone
import Derived.Test.YtjnafppkbhldlaaGreatP3
set_option maxRecDepth 100000
set_option maxHeartbeats 16000000
namespace Go.Proofs.YtjnafppkbhldlaaGreat
open Go.RowKit
def rv (x : Nat) : Nat → Nat
  | 0 => 0
  | k + 1 => 256 * rv x k + x / 256 ^ k % 256
theorem OB.of_blk {w : World} {g : Nat} {l : List Int} {base n : Nat} (h : Blk w g (bs l).toArray 5) (hb : base ≤ g) (hn : n = l.length) (hl : l.length ≤ 1000000) : OB w base (.slice (some ⟨g, 0, none⟩) n n) l := by
  subst hn
  refine ⟨by rw [bs_len, Nat.mul_one], .inr ⟨g, l.length, (bs l).toArray, rfl, hb, h, Nat.le_refl _, by unfold maxLen; omega, by simp [bs], ?_⟩⟩
  rw [Nat.mul_one, List.toList_toArray, ← bs_len l, List.take_length]
def NB (w : World) (u : Value) (m : List Int) : Prop := (u = .slice none 0 0 ∧ m = []) ∨ ∃ ad cap, u = .slice (some ad) m.length cap ∧ ∀ j z, (bs m)[j]? = some z → w.cell? (ad.add j) = some z
theorem NB.nil (w : World) : NB w (.slice none 0 0) [] := .inl ⟨rfl, rfl⟩
theorem NB.of_own {w : World} {base : Nat} {v : Value} {m : List Int} (h : OB w base v m) : NB w v m := by
  rcases h.2 with ⟨rfl, h0⟩ | ⟨g, cap, cur, rfl, _⟩
  · exact .inl ⟨rfl, List.length_eq_zero_iff.1 h0⟩
  · exact .inr ⟨_, cap, rfl, World.ownsRow.cells h rfl⟩
theorem NB.ext {w w1 : World} {v : Value} {m : List Int} (h : NB w v m) (hsz : ∀ ad len cap, v = .slice (some ad) len cap → 0 < len → ad.block < w.heap.size) (he : Ext w w1) : NB w1 v m := by
  rcases h with h | ⟨ad, cap, rfl, h⟩
  · exact .inl h
  · refine .inr ⟨ad, cap, rfl, fun j z hj => ?_⟩
    have hl : 0 < m.length := by
      rcases Nat.eq_zero_or_pos m.length with h0 | h0
      · have : m = [] := List.length_eq_zero_iff.1 h0
        subst this; simp [bs] at hj
      · exact h0
    have hb := hsz ad _ cap rfl hl
    rw [← h j z hj]
    exact Below.cell he (by unfold Addr.add; split <;> exact hb)
theorem err_zero {ty n x y : Int} {s : ByteArray} {ver : Int} (h : errV ty n x y s ver = 0) : (ver = 1 ∨ ver = 2) ∧ rightV ty n x y s = 0 := by
  unfold errV at h
  by_cases hv : ver = 1 ∨ ver = 2
  · rw [if_pos hv] at h; exact ⟨hv, h⟩
  · rw [if_neg hv] at h; cases h
theorem putL_len {ty n : Int} {x y : Nat} {s : ByteArray} {ver : Int} (h : errV ty n x y s ver = 0) (hn : -9223372036854775808 ≤ n ∧ n < 9223372036854775808) : (putL ty n x y s ver).length ≤ 3000 := by
  obtain ⟨hv, hr⟩ := err_zero h
  have hs := (right_zero hr).2.2.1
  have fx := floatL_len (x := x) (ver := ver)
  have fy := floatL_len (x := y) (ver := ver)
  have fx2 := floatL_len (x := x) (ver := 2)
  have fy2 := floatL_len (x := y) (ver := 2)
  have h1 := sevens_len10 (zig_lt n hn)
  have h2 := sevens_len10 (x := s.size) (by omega)
  have h3 := strL_len s
  unfold putL complexL
  (repeat' split) <;> (try simp only [List.length_append, List.length_cons, List.length_nil, wordL_len]) <;> omega
theorem vput_ok (v : Value) (l : List Int) (ty n : Int) (x y : Nat) (s : ByteArray) (ver : Int) (w : World) (h : errV ty n x y s ver = 0) (hl : Sl w v 1 (l.map bcell)) (hlen : l.length ≤ 800000) (hn : -9223372036854775808 ≤ n ∧ n < 9223372036854775808) (hx : x < 2 ^ 64) (hy : y < 2 ^ 64) (hs : s.size ≤ 9223372036854775807) :
    Calls Tryz.prog 301 #[v, .agg #[.int .u8 ty, .int .i64 n, .complex .f64 x y, .string s], .int .u8 ver] w fun e w' => ∃ v', e = .returned (.tuple #[v', .int .i64 0]) ∧ OB w' w.heap.size v' (l ++ putL ty n x y s ver) ∧ Ext w w' := by
  refine (vput_any v l ty n x y s ver w hl hlen hn hx hy hs).mono ?_
  rintro e w' ⟨v', rfl, h1, h2, h3⟩
  exact ⟨v', by rw [h], h1 h, h3⟩
theorem conv_Sl {w : World} {v : Value} {l : List Int} (h : Sl w v 1 (l.map bcell)) : (convert 27 9 v).run Tryz.prog w = .ok (.string (strOfNums l)) w := by
  have h0 := h
  obtain ⟨a, cap, rfl, hs⟩ := h
  rcases hs with hn | ⟨b, o, rfl, hb, hc⟩
  · have hl : l = [] := by simpa using hn
    subst hl
    cases a with
    | none => exact run_convert_bytes_nil w _ _ Tryz.underlying27 Tryz.underlying5 _ _ _ Tryz.underlying9
    | some ad =>
      rw [run_convert_bytes_string w _ _ _ _ _ _ Tryz.underlying27 Tryz.underlying5 Tryz.underlying9]
      have hl : (loadCells ad 0).run Tryz.prog w = .ok (([] : List Int).map (Value.int .u8)).toArray w := by
        have := run_loadCells_list (P := Tryz.prog) w ad [] (fun j v hj => by simp at hj)
        simpa using this
      exact run_bytesToString w ad 0 cap [] hl
  · simp only [List.length_map] at *
    refine run_convert_bytes_arg w _ _ Tryz.underlying27 Tryz.underlying5 b o _ cap l rfl (fun i hi => ?_) _ Tryz.underlying9
    exact (Sl.bytes h0 (by omega)).2.2 i hi
theorem fresh_bytes (w : World) (l : List Int) (n : Nat) (hn : n = l.length) : Sl (w.alloc (.cells (bs l).toArray 5)) (.slice (some ⟨w.heap.size, 0, none⟩) n n) 1 (l.map bcell) := by
  subst hn
  have := Sl.new w (bs l).toArray 5 1 l.length l.length (l.map bcell) (by rw [bs_flat]) (by intro xs hxs; simp at hxs; obtain ⟨x, _, rfl⟩ := hxs; rfl) (by simp)
  exact this
theorem isB_sevens : ∀ (k x : Nat), x ≤ k → isB (sevens x) := by
  intro k
  induction k using Nat.strongRecOn with
  | _ k ih =>
    intro x hx b hb
    by_cases h : x < 128
    · rw [sevens_lt h] at hb; simp at hb; omega
    · rw [sevens_ge h] at hb
      rcases List.mem_cons.1 hb with rfl | hb
      · omega
      · exact ih (x / 128) (by omega) _ (Nat.le_refl _) b hb
theorem isB_float (x : Nat) (ver : Int) : isB (floatL x ver) := by
  unfold floatL; split
  · exact isB_word _
  · exact isB_sevens _ _ (Nat.le_refl _)
theorem isB_mark (x y : Nat) : isB [markOf x y] := by
  intro b hb
  simp only [List.mem_singleton] at hb
  subst hb; unfold markOf; split <;> split <;> omega
theorem isB_if {p : Prop} [Decidable p] {l : List Int} (h : isB l) : isB (if p then [] else l) := by split; exact isB.nil; exact h
theorem isB_complex (x y : Nat) (ver : Int) : isB (complexL x y ver) := by
  by_cases h : ver = 2
  · unfold complexL; rw [if_pos h]
    exact isB.append (isB.append (isB_mark _ _) (isB_if (isB_float _ _))) (isB_if (isB_float _ _))
  · unfold complexL; rw [if_neg h]
    exact isB.append (isB_float _ _) (isB_float _ _)
theorem isB_putL {ty n : Int} {x y : Nat} {s : ByteArray} {ver : Int} (h : rightV ty n x y s = 0) : isB (putL ty n x y s ver) := by
  have hz := right_zero h
  unfold putL
  (repeat' split)
  · intro b hb
    simp only [List.mem_singleton] at hb
    subst hb
    rcases hz.2.2.2.1 (by assumption) with h1 | h1 <;> omega
  · exact isB_word _
  · exact isB_sevens _ _ (Nat.le_refl _)
  · exact isB_float _ _
  · exact isB_complex _ _ _
  · exact isB.append (isB_sevens _ _ (Nat.le_refl _)) (isB_strL _)
theorem giveS_e {st : RS} {e : Int} (he : e ≠ 0) : (giveS st e).e ≠ 0 := by unfold giveS; split; exact he; assumption
theorem uintR_e {st : RS} {m : Nat} (h : (uintR m st).2.e = 0) : st.e = 0 := by
  unfold uintR at h; simp only at h; (repeat' split at h)
  · rename_i hd; exact absurd h (giveS_e hd)
  · exact absurd h (giveS_e (by decide))
  · exact h
theorem bytesR_e {st : RS} {n : Nat} (h : (bytesR n st).2.e = 0) : st.e = 0 := by
  unfold bytesR at h; split at h
  · exact absurd h (giveS_e (by decide))
  · exact h
theorem uintR_inv {b l : List Int} {m x : Nat} (hb : isB b) (h : uintR m ⟨b, 0⟩ = (x, ⟨l, 0⟩)) : b = sevens x ++ l ∧ x < 2 ^ 64 ∧ x ≤ m := by
  unfold uintR at h
  simp only at h
  split at h
  · rename_i hd
    have := congrArg (fun z => z.2.e) h
    exact absurd this (giveS_e hd)
  · split at h
    · have := congrArg (fun z => z.2.e) h
      exact absurd this (giveS_e (by decide))
    · rename_i hd hm
      obtain ⟨v, n, e⟩ : ∃ v n, digs b 0 0 = (v, n, 0) := ⟨_, _, Prod.ext rfl (Prod.ext rfl (Classical.not_not.1 hd))⟩
      rw [e] at h hm
      simp only [Prod.mk.injEq, RS.mk.injEq] at h
      obtain ⟨rfl, rfl, -⟩ := h
      obtain ⟨y, h1, h2, h3, h4, -⟩ := digs_inv b 0 0 _ _ hb (by omega) e
      simp only [Nat.pow_zero, Nat.mul_one, Nat.zero_add] at h1 h2 h4
      subst h1; subst h2
      exact ⟨h3, h4, by simpa using hm⟩
theorem bytesR_inv {b l m : List Int} {n : Nat} (h : bytesR n ⟨b, 0⟩ = (m, ⟨l, 0⟩)) : b = m ++ l ∧ m.length = n := by
  unfold bytesR at h
  simp only at h
  split at h
  · have := congrArg (fun z => z.2.e) h
    exact absurd this (giveS_e (by decide))
  · rename_i hn
    simp only [Prod.mk.injEq, RS.mk.injEq] at h
    obtain ⟨rfl, rfl, -⟩ := h
    exact ⟨(List.take_append_drop n b).symm, by simp; omega⟩
theorem wordR_inv {b l : List Int} {x : Nat} (hb : isB b) (h : wordR ⟨b, 0⟩ = (x, ⟨l, 0⟩)) : b = wordL (x : Int) ++ l ∧ x < 2 ^ 64 := by
  unfold wordR at h
  simp only [Prod.mk.injEq] at h
  obtain ⟨h1, h2⟩ := h
  obtain ⟨m, hm⟩ : ∃ m, bytesR 8 ⟨b, 0⟩ = (m, ⟨l, 0⟩) := ⟨_, Prod.ext rfl h2⟩
  rw [hm] at h1
  simp only at h1
  obtain ⟨rfl, h8⟩ := bytesR_inv hm
  have hbm : isB m := fun z hz => hb z (List.mem_append.2 (.inl hz))
  subst h1
  exact ⟨by rw [word_inv hbm h8], ofBytes_lt64 hbm (by omega)⟩
theorem floatR_inv {b l : List Int} {x : Nat} {ver : Int} (hb : isB b) (h : floatR ver ⟨b, 0⟩ = (x, ⟨l, 0⟩)) : b = floatL x ver ++ l ∧ x < 2 ^ 64 := by
  unfold floatR at h
  unfold floatL
  by_cases hv : ver = 1
  · rw [if_pos hv] at h ⊢; exact wordR_inv hb h
  · rw [if_neg hv] at h ⊢
    simp only [Prod.mk.injEq] at h
    obtain ⟨h1, h2⟩ := h
    obtain ⟨y, hy⟩ : ∃ y, uintR 18446744073709551615 ⟨b, 0⟩ = (y, ⟨l, 0⟩) := ⟨_, Prod.ext rfl h2⟩
    rw [hy] at h1
    simp only at h1
    obtain ⟨h3, h4, -⟩ := uintR_inv hb hy
    subst h1
    exact ⟨by rw [rev_rev h4]; exact h3, rev_lt⟩
theorem floatR_e {st : RS} {ver : Int} (h : (floatR ver st).2.e = 0) : st.e = 0 := by
  unfold floatR at h; split at h
  · exact bytesR_e h
  · exact uintR_e h
theorem partR_e {st : RS} {t : Bool} (h : (partR t st).2.e = 0) : st.e = 0 := by
  unfold partR at h; split at h
  · simp only at h; split at h
    · exact absurd h (giveS_e (by decide))
    · exact floatR_e h
  · exact h
theorem partR_inv {b l : List Int} {x : Nat} {t : Bool} (hb : isB b) (h : partR t ⟨b, 0⟩ = (x, ⟨l, 0⟩)) : t = decide (x ≠ 0) ∧ b = (if x = 0 then [] else floatL x 2) ++ l ∧ x < 2 ^ 64 := by
  unfold partR at h
  cases t with
  | false =>
    simp only [Bool.false_eq_true, if_false, Prod.mk.injEq, RS.mk.injEq] at h
    obtain ⟨rfl, rfl, -⟩ := h
    exact ⟨rfl, rfl, by decide⟩
  | true =>
    simp only [if_true, Prod.mk.injEq] at h
    obtain ⟨h1, h2⟩ := h
    split at h2
    · have := congrArg RS.e h2
      exact absurd this (giveS_e (by decide))
    · rename_i hx
      obtain ⟨h3, h4⟩ := floatR_inv hb (Prod.ext h1 h2)
      rw [h1] at hx
      exact ⟨by simp [hx], by rw [if_neg hx]; exact h3, h4⟩
theorem RS.eta (st : RS) (h : st.e = 0) : st = ⟨st.l, 0⟩ := by cases st; simp only at h; subst h; rfl
theorem complexR_inv {b l : List Int} {x y : Nat} {ver : Int} (hv : ver = 1 ∨ ver = 2) (hb : isB b) (h : complexR ver ⟨b, 0⟩ = ((x, y), ⟨l, 0⟩)) : b = complexL x y ver ++ l ∧ x < 2 ^ 64 ∧ y < 2 ^ 64 := by
  unfold complexR at h
  rcases hv with rfl | rfl
  · rw [if_pos rfl] at h
    simp only [Prod.mk.injEq] at h
    obtain ⟨⟨h1, h2⟩, h3⟩ := h
    have he : (wordR ⟨b, 0⟩).2.e = 0 := bytesR_e (by have := congrArg RS.e h3; exact this)
    have e1 : wordR ⟨b, 0⟩ = (x, ⟨(wordR ⟨b, 0⟩).2.l, 0⟩) := Prod.ext h1 (RS.eta _ he)
    obtain ⟨h4, h5⟩ := wordR_inv hb e1
    rw [RS.eta _ he] at h2 h3
    have hb2 : isB (wordR ⟨b, 0⟩).2.l := fun z hz => hb z (by rw [h4]; exact List.mem_append.2 (.inr hz))
    obtain ⟨h6, h7⟩ := wordR_inv hb2 (Prod.ext h2 h3)
    refine ⟨?_, h5, h7⟩
    unfold complexL floatL
    rw [if_neg (by decide), if_pos rfl, if_pos rfl, List.append_assoc, ← h6]; exact h4
  · rw [if_neg (by decide)] at h
    simp only [Prod.mk.injEq] at h
    obtain ⟨⟨h1, h2⟩, h3⟩ := h
    obtain ⟨m, S1, hm⟩ : ∃ m S1, byteR ⟨b, 0⟩ = (m, S1) := ⟨_, _, rfl⟩
    rw [hm] at h1 h2 h3
    simp only at h1 h2 h3
    obtain ⟨S2, hS2⟩ : ∃ S2, S2 = (if 3 < m then giveS S1 4 else S1) := ⟨_, rfl⟩
    rw [← hS2] at h1 h2 h3
    obtain ⟨p, S3, hp⟩ : ∃ p S3, partR (decide (m % 2 = 1)) S2 = (p, S3) := ⟨_, _, rfl⟩
    rw [hp] at h1 h2 h3
    simp only at h1 h2 h3
    subst h1
    have e3 : S3.e = 0 := partR_e (t := decide (m / 2 % 2 = 1)) (by rw [h3])
    have e2 : S2.e = 0 := partR_e (t := decide (m % 2 = 1)) (by rw [hp]; exact e3)
    have hm3 : ¬ 3 < m := by
      intro h3
      rw [if_pos h3] at hS2
      rw [hS2] at e2
      exact giveS_e (by decide) e2
    rw [if_neg hm3] at hS2
    subst hS2
    obtain ⟨L1, rfl⟩ : ∃ L, S2 = ⟨L, 0⟩ := ⟨_, RS.eta _ e2⟩
    obtain ⟨L3, rfl⟩ : ∃ L, S3 = ⟨L, 0⟩ := ⟨_, RS.eta _ e3⟩
    have hbm : bytesR 1 ⟨b, 0⟩ = ((bytesR 1 ⟨b, 0⟩).1, ⟨L1, 0⟩) := Prod.ext rfl (by have := congrArg Prod.snd hm; exact this)
    obtain ⟨hb1, hb2⟩ := bytesR_inv hbm
    obtain ⟨z, hz⟩ : ∃ z, (bytesR 1 ⟨b, 0⟩).1 = [z] := by
      cases hq : (bytesR 1 ⟨b, 0⟩).1 with
      | nil => rw [hq] at hb2; cases hb2
      | cons z q => cases q with
        | nil => exact ⟨z, rfl⟩
        | cons y q => rw [hq] at hb2; simp at hb2
    have hzm : z = m := by have := congrArg Prod.fst hm; simp only [byteR, hz] at this; exact this
    subst hzm
    rw [hz] at hb1
    have hB1 : isB L1 := fun q hq => hb q (by rw [hb1]; exact List.mem_append.2 (.inr hq))
    obtain ⟨t1, l1, x1⟩ := partR_inv hB1 hp
    have hB3 : isB L3 := fun q hq => hB1 q (by rw [l1]; exact List.mem_append.2 (.inr hq))
    obtain ⟨t2, l2, x2⟩ := partR_inv hB3 (Prod.ext h2 h3)
    have hz0 : 0 ≤ z := (hb z (by rw [hb1]; simp)).1
    have hmark : z = markOf p y := by
      have q1 := decide_eq_decide.1 t1
      have q2 := decide_eq_decide.1 t2
      unfold markOf
      clear hb hb1 hb2 hz hm hbm hp h2 h3 l1 l2 t1 t2 x1 x2 hB1 hB3 e2 e3
      split <;> split <;> simp_all <;> omega
    refine ⟨?_, x1, x2⟩
    unfold complexL
    rw [if_pos rfl, hb1, ← hmark, List.append_assoc, List.append_assoc, ← l2, ← l1]
theorem byteR_inv {b l : List Int} {x : Int} (h : byteR ⟨b, 0⟩ = (x, ⟨l, 0⟩)) : b = x :: l := by
  unfold byteR at h
  simp only [Prod.mk.injEq] at h
  obtain ⟨h1, h2⟩ := h
  obtain ⟨m, hm⟩ : ∃ m, bytesR 1 ⟨b, 0⟩ = (m, ⟨l, 0⟩) := ⟨_, Prod.ext rfl h2⟩
  rw [hm] at h1
  obtain ⟨hb1, hb2⟩ := bytesR_inv hm
  cases m with
  | nil => cases hb2
  | cons z q => cases q with
    | nil => simp at h1; subst h1; exact hb1
    | cons y q => simp at hb2
theorem textR_inv {b l m : List Int} {n : Nat} (hb : isB b) (h : textR n ⟨b, 0⟩ = (m, ⟨l, 0⟩)) : b = sevens m.length ++ m ++ l ∧ m.length ≤ n := by
  unfold textR at h
  simp only at h
  obtain ⟨x, S1, hx⟩ : ∃ x S1, uintR n ⟨b, 0⟩ = (x, S1) := ⟨_, _, rfl⟩
  rw [hx] at h
  simp only at h
  have he : S1.e = 0 := bytesR_e (n := x) (by rw [h])
  obtain ⟨L1, rfl⟩ : ∃ L, S1 = ⟨L, 0⟩ := ⟨_, RS.eta _ he⟩
  obtain ⟨h1, -, h2⟩ := uintR_inv hb hx
  obtain ⟨h3, h4⟩ := bytesR_inv h
  subst h4
  exact ⟨by rw [h1, h3, List.append_assoc], h2⟩
theorem failS_e {S : RS} {e : Int} (h : (failS S e).e = 0) : e = 0 ∧ S.e = 0 := by
  unfold failS at h
  split at h
  · rename_i he; exact absurd h (giveS_e he)
  · rename_i he; exact ⟨Classical.not_not.1 he, h⟩
theorem wf_mk {ty n : Int} {x y : Nat} {s : ByteArray} (h1 : -9223372036854775808 ≤ n) (h2 : n < 9223372036854775808) (h3 : x < 2 ^ 64) (h4 : y < 2 ^ 64) : V.wf ⟨ty, n, x, y, s⟩ := ⟨⟨h1, h2⟩, h3, h4⟩
theorem takeV_inv {b l : List Int} {kind ver : Int} {v : V} (hb : isB b) (hv : ver = 1 ∨ ver = 2) (h : takeV kind ver ⟨b, 0⟩ = (v, ⟨l, 0⟩)) : v.right = 0 ∧ v.wf ∧ v.ty = kind ∧ b = v.put ver ++ l := by
  unfold takeV at h
  rw [if_pos hv] at h
  simp only at h
  split at h
  · rename_i he
    have := congrArg (fun z => z.2.e) h
    exact absurd this he
  · rename_i he
    simp only [Classical.not_not] at he
    obtain ⟨v', S, hS⟩ : ∃ v' S, bodyR kind ver ⟨b, 0⟩ = (v', S) := ⟨_, _, rfl⟩
    rw [hS] at h he
    simp only at h he
    obtain ⟨hr, hSe⟩ := failS_e he
    simp only [Prod.mk.injEq] at h
    obtain ⟨rfl, h2⟩ := h
    have hS2 : S = ⟨l, 0⟩ := by unfold failS at h2; rw [if_neg (by simp [hr])] at h2; exact h2
    subst hS2
    clear h2 he hSe
    unfold bodyR at hS
    have hty := right_zero hr
    (repeat' split at hS)
    · rename_i hk
      simp only [Prod.mk.injEq] at hS
      obtain ⟨rfl, h2⟩ := hS
      have hx := byteR_inv (x := (byteR ⟨b, 0⟩).1) (Prod.ext rfl h2)
      simp only at hty
      have h01 := hty.2.2.2.1 hk
      refine ⟨hr, wf_mk (by omega) (by omega) (by decide) (by decide), rfl, ?_⟩
      simp only [V.put, putL]; rw [if_pos hk]; exact hx
    · rename_i hk hv1
      simp only [Prod.mk.injEq] at hS
      obtain ⟨rfl, h2⟩ := hS
      obtain ⟨h3, h4⟩ := wordR_inv (x := (wordR ⟨b, 0⟩).1) hb (Prod.ext rfl h2)
      refine ⟨hr, wf_mk (toI64_rng h4).1 (toI64_rng h4).2 (by decide) (by decide), rfl, ?_⟩
      simp only [V.put, putL]; rw [if_neg (by omega), if_pos hk, if_pos hv1, mod_toI64 h4]; exact h3
    · rename_i hk hv1
      simp only [Prod.mk.injEq, intR] at hS
      obtain ⟨rfl, h2⟩ := hS
      obtain ⟨h3, h4, -⟩ := uintR_inv (x := (uintR 18446744073709551615 ⟨b, 0⟩).1) hb (Prod.ext rfl h2)
      refine ⟨hr, wf_mk (zag_rng h4).1 (zag_rng h4).2 (by decide) (by decide), rfl, ?_⟩
      simp only [V.put, putL]; rw [if_neg (by omega), if_pos hk, if_neg hv1, zig_zag]; exact h3
    · rename_i hk
      simp only [Prod.mk.injEq] at hS
      obtain ⟨rfl, h2⟩ := hS
      obtain ⟨h3, h4⟩ := floatR_inv (x := (floatR ver ⟨b, 0⟩).1) hb (Prod.ext rfl h2)
      refine ⟨hr, wf_mk (by decide) (by decide) h4 (by decide), rfl, ?_⟩
      simp only [V.put, putL]; rw [if_neg (by omega), if_neg (by omega), if_pos hk]; exact h3
    · rename_i hk
      simp only [Prod.mk.injEq] at hS
      obtain ⟨rfl, h2⟩ := hS
      obtain ⟨h3, h4, h5⟩ := complexR_inv (x := (complexR ver ⟨b, 0⟩).1.1) (y := (complexR ver ⟨b, 0⟩).1.2) hv hb (Prod.ext rfl h2)
      refine ⟨hr, wf_mk (by decide) (by decide) h4 h5, rfl, ?_⟩
      simp only [V.put, putL]; rw [if_neg (by omega), if_neg (by omega), if_neg (by omega), if_pos hk]; exact h3
    · rename_i hk
      simp only [Prod.mk.injEq] at hS
      obtain ⟨rfl, h2⟩ := hS
      obtain ⟨h3, h4⟩ := textR_inv (m := (textR 2048 ⟨b, 0⟩).1) hb (Prod.ext rfl h2)
      have hbm : isB (textR 2048 ⟨b, 0⟩).1 := fun z hz => hb z (by rw [h3]; simp [hz])
      refine ⟨hr, wf_mk (by decide) (by decide) (by decide) (by decide), rfl, ?_⟩
      simp only [V.put, putL]
      rw [if_neg (by omega), if_neg (by omega), if_neg (by omega), if_neg (by omega), strL_strOf hbm, strOfNums_size]; exact h3
    · exfalso
      simp only [Prod.mk.injEq] at hS
      obtain ⟨rfl, h2⟩ := hS
      simp only at hty
      omega
def errC (k ty n x y : Int) (s : ByteArray) (kind ver : Int) : Int :=
  if ver = 1 ∨ ver = 2 then (if rightC k ty n x y s kind ≠ 0 then rightC k ty n x y s kind else if k = 0 then 12 else 0) else 18
def putC (k ty n : Int) (x y : Nat) (s : ByteArray) (kind ver : Int) : List Int :=
  if k = 1 then [0] else if largeB k ty s = true then (3 - ver) :: sevens s.size
  else if ver = 2 then (if kind = 5 ∨ kind = 6 then sevens (s.size + 2) ++ strL s else putL ty n x y s 2) else 1 :: putL ty n x y s 1
theorem errC_zero {k ty n x y : Int} {s : ByteArray} {kind ver : Int} (hk0 : 0 ≤ k) (h : errC k ty n x y s kind ver = 0) :
    (ver = 1 ∨ ver = 2) ∧ rightC k ty n x y s kind = 0 ∧ (k = 1 ∨ k = 2) ∧ (1 ≤ kind ∧ kind ≤ 6) := by
  unfold errC at h
  by_cases hv : ver = 1 ∨ ver = 2
  · rw [if_pos hv] at h
    by_cases hr : rightC k ty n x y s kind = 0
    · rw [if_neg (by simpa using hr)] at h
      refine ⟨hv, hr, ?_⟩
      have hr2 := hr
      unfold rightC at hr2
      (repeat' split at hr2) <;> (repeat' split at h) <;> first | omega | (exfalso; omega)
    · rw [if_pos hr] at h; exact absurd h hr
  · rw [if_neg hv] at h; cases h
def K.err (c : K) (kind ver : Int) : Int := errC c.k c.v.ty c.v.n c.v.x c.v.y c.v.s kind ver
def K.put (c : K) (kind ver : Int) : List Int := putC c.k c.v.ty c.v.n c.v.x c.v.y c.v.s kind ver
def largeR (st : RS) : Nat × RS := let r := uintR 2048 st; (r.1, if r.1 ≤ 64 then giveS r.2 4 else r.2)
def fullT (kind : Int) : K := ⟨2, ⟨kind, 0, 0, 0, ByteArray.empty⟩⟩
def textK (kind : Int) (q : List Int × RS) : (K × Nat) × RS := ((⟨2, ⟨kind, 0, 0, 0, strOfNums q.1⟩⟩, 0), failS q.2 (rightV kind 0 (0 : Nat) (0 : Nat) (strOfNums q.1)))
def firstC (kind : Int) (st : RS) : (K × Nat) × RS :=
  let t := byteR st
  if t.2.e ≠ 0 then ((K.zero, 0), t.2)
  else if 2 < t.1 ∨ (t.1 ≠ 1 ∧ kind ≠ 5 ∧ kind ≠ 6) then ((K.zero, 0), giveS t.2 7)
  else if t.1 = 0 then ((⟨1, V.zero⟩, 0), t.2)
  else if t.1 = 2 then let q := largeR t.2; ((fullT kind, q.1), q.2)
  else if kind = 5 ∨ kind = 6 then textK kind (textR 64 t.2)
  else let q := takeV kind 1 t.2; ((⟨2, q.1⟩, 0), q.2)
def secondC (kind : Int) (st : RS) : (K × Nat) × RS :=
  let t := uintR 66 st
  if t.2.e ≠ 0 then ((K.zero, 0), t.2)
  else if t.1 = 0 then ((⟨1, V.zero⟩, 0), t.2)
  else if t.1 = 1 then let q := largeR t.2; ((fullT kind, q.1), q.2)
  else textK kind (bytesR (t.1 - 2) t.2)
def preC (kind ver : Int) (st : RS) : (K × Nat) × RS :=
  if ¬ (ver = 1 ∨ ver = 2) then ((K.zero, 0), giveS st 18)
  else if kind < 1 ∨ 6 < kind then ((K.zero, 0), giveS st 11)
  else if ver = 1 then firstC kind st
  else if kind = 5 ∨ kind = 6 then secondC kind st
  else let q := takeV kind 2 st; ((⟨2, q.1⟩, 0), q.2)
def finC (r : (K × Nat) × RS) : (K × Nat) × RS := if r.2.e ≠ 0 then ((K.zero, 0), r.2) else r
def takeC (kind ver : Int) (st : RS) : (K × Nat) × RS := finC (preC kind ver st)
theorem byteR_cons (x : Int) (l : List Int) (e : Int) : byteR ⟨x :: l, e⟩ = (x, ⟨l, e⟩) := by
  unfold byteR bytesR; simp
theorem finC_ok {r : (K × Nat) × RS} (h : r.2.e = 0) : finC r = r := by unfold finC; rw [if_neg (by simpa using h)]
theorem largeR_put {x : Nat} (l : List Int) (h : 64 < x) (h2 : x ≤ 2048) : largeR ⟨sevens x ++ l, 0⟩ = (x, ⟨l, 0⟩) := by
  unfold largeR
  simp only [uintR_sevens l (show x < 2 ^ 64 by omega) h2]
  rw [if_neg (by omega)]
theorem largeR_inv {b l : List Int} {x : Nat} (hb : isB b) (h : largeR ⟨b, 0⟩ = (x, ⟨l, 0⟩)) : b = sevens x ++ l ∧ 64 < x ∧ x ≤ 2048 := by
  unfold largeR at h
  simp only [Prod.mk.injEq] at h
  obtain ⟨h1, h2⟩ := h
  by_cases h64 : (uintR 2048 ⟨b, 0⟩).1 ≤ 64
  · rw [if_pos h64] at h2
    have := congrArg RS.e h2
    exact absurd this (giveS_e (by decide))
  · rw [if_neg h64] at h2
    obtain ⟨h3, -, h4⟩ := uintR_inv hb (Prod.ext h1 h2)
    exact ⟨h3, by omega, h4⟩
theorem textK_right {kind : Int} {s : ByteArray} {l : List Int} (h : rightV kind 0 (0 : Nat) (0 : Nat) s = 0) : textK kind (strL s, ⟨l, 0⟩) = ((⟨2, ⟨kind, 0, 0, 0, s⟩⟩, 0), ⟨l, 0⟩) := by
  unfold textK failS
  simp only [strOf_strL, h]
  rw [if_neg (by decide)]
def K.taken (c : K) : K × Nat := if largeB c.k c.v.ty c.v.s = true then (fullT c.v.ty, c.v.s.size) else (c, 0)
theorem takeC_put (c : K) (kind ver : Int) (l : List Int) (hk0 : 0 ≤ c.k) (he : c.err kind ver = 0) (hw : c.v.wf) : takeC kind ver ⟨c.put kind ver ++ l, 0⟩ = (c.taken, ⟨l, 0⟩) := by
  obtain ⟨hv, hr, hk, hkd⟩ := errC_zero hk0 he
  obtain ⟨k, v⟩ := c
  simp only [K.put, K.taken] at *
  unfold takeC preC
  rw [if_neg (fun h => h hv), if_neg (by omega)]
  rcases hk with rfl | rfl
  · obtain ⟨h1, h2, h3, h4, h5, h6⟩ := right_same (by decide) hr
    have hty := h6 rfl
    have hz : v = V.zero := by
      obtain ⟨ty, n, x, y, s⟩ := v
      simp only at h1 h2 h3 h4 h5
      obtain rfl := h1
      obtain rfl := h2
      obtain rfl : x = 0 := by omega
      obtain rfl : y = 0 := by omega
      obtain rfl : s = ByteArray.empty := (size_zero s).2 h5
      rfl
    subst hz
    have hl : largeB 1 V.zero.ty V.zero.s = false := by decide
    rw [hl]
    have hp : putC 1 V.zero.ty V.zero.n V.zero.x V.zero.y V.zero.s kind ver = [0] := by unfold putC; rw [if_pos rfl]
    rw [hp]
    rcases hv with rfl | rfl
    · rw [if_pos rfl]
      unfold firstC
      rw [List.cons_append, byteR_cons]
      simp only [ne_eq, not_true_eq_false, if_false]
      rw [if_neg (by omega)]
      simp [finC]
    · rw [if_neg (by decide), if_pos hty]
      unfold secondC
      have := uintR_sevens (x := 0) (m := 66) l (by decide) (by decide)
      rw [sevens_lt (by decide)] at this
      simp only [Int.natCast_zero] at this
      rw [this]
      simp [finC]
  · obtain ⟨h1, h2⟩ := right_full hr
    have hz := right_zero h1
    by_cases hL : largeB 2 v.ty v.s = true
    · rw [if_pos hL]
      have hp : putC 2 v.ty v.n v.x v.y v.s kind ver = (3 - ver) :: sevens v.s.size := by unfold putC; rw [if_neg (by decide), if_pos hL]
      rw [hp]
      unfold largeB at hL
      rw [decide_eq_true_eq] at hL
      obtain ⟨-, hty, h64⟩ := hL
      rw [h2] at hty
      rw [h2]
      rcases hv with rfl | rfl
      · rw [if_pos rfl]
        unfold firstC
        rw [List.cons_append, byteR_cons]
        simp only [ne_eq, not_true_eq_false, if_false]
        rw [if_neg (by omega), if_neg (by decide), if_pos (by decide), largeR_put l h64 hz.2.2.1]
        simp [finC]
      · rw [if_neg (by decide), if_pos hty]
        unfold secondC
        have := uintR_sevens (x := 1) (m := 66) (sevens v.s.size ++ l) (by decide) (by decide)
        rw [sevens_lt (by decide)] at this
        have e : ((3 - 2 : Int) :: sevens v.s.size) ++ l = [((1 : Nat) : Int)] ++ (sevens v.s.size ++ l) := rfl
        rw [e, this]
        simp only [ne_eq, not_true_eq_false, if_false, Nat.one_ne_zero, if_true]
        rw [largeR_put l h64 hz.2.2.1]
        simp [finC]
    · have hp1 : putC 2 v.ty v.n v.x v.y v.s kind 1 = 1 :: putL v.ty v.n v.x v.y v.s 1 := by unfold putC; rw [if_neg (by decide), if_neg hL, if_neg (by decide)]
      have hp2 : putC 2 v.ty v.n v.x v.y v.s kind 2 = if kind = 5 ∨ kind = 6 then sevens (v.s.size + 2) ++ strL v.s else putL v.ty v.n v.x v.y v.s 2 := by unfold putC; rw [if_neg (by decide), if_neg hL, if_pos rfl]
      rw [if_neg hL]
      unfold largeB at hL
      rw [decide_eq_true_eq] at hL
      have hT : kind = 5 ∨ kind = 6 → v = ⟨kind, 0, 0, 0, v.s⟩ ∧ v.s.size ≤ 64 := by
        intro hk
        obtain ⟨ty, n, x, y, s⟩ := v
        simp only at *
        obtain rfl := h2
        obtain rfl : n = 0 := by omega
        obtain rfl : x = 0 := by omega
        obtain rfl : y = 0 := by omega
        exact ⟨rfl, by rcases Nat.lt_or_ge 64 s.size with h | h; exact absurd ⟨by first | rfl | trivial, hk, h⟩ hL; exact h⟩
      rcases hv with rfl | rfl
      · rw [if_pos rfl, hp1]
        unfold firstC
        rw [List.cons_append, byteR_cons]
        simp only [ne_eq, not_true_eq_false, if_false]
        rw [if_neg (by first | omega | simp), if_neg (by decide), if_neg (by decide)]
        by_cases hty : kind = 5 ∨ kind = 6
        · rw [if_pos hty]
          obtain ⟨hv5, h64⟩ := hT hty
          have hp3 : putL v.ty v.n v.x v.y v.s 1 = sevens v.s.size ++ strL v.s := by
            unfold putL; rw [if_neg (by omega), if_neg (by omega), if_neg (by omega), if_neg (by omega)]
          rw [hp3, textR_put l h64 (by decide), textK_right]
          · rw [finC_ok rfl]; conv => rhs; rw [hv5]
          · rw [hv5] at h1; exact h1
        · rw [if_neg hty]
          have := takeV_put v 1 l (.inl rfl) h1 hw
          rw [h2] at this
          have e : putL v.ty v.n v.x v.y v.s 1 = v.put 1 := rfl
          rw [e, this]
          simp only
          rw [finC_ok rfl]
      · rw [if_neg (by decide), hp2]
        by_cases hty : kind = 5 ∨ kind = 6
        · rw [if_pos hty, if_pos hty]
          obtain ⟨hv5, h64⟩ := hT hty
          unfold secondC
          rw [List.append_assoc, uintR_sevens _ (by omega) (by omega)]
          simp only [ne_eq, not_true_eq_false, if_false]
          rw [if_neg (by omega), if_neg (by omega), Nat.add_sub_cancel, bytesR_put _ _ (strL_len v.s) 0, textK_right]
          · rw [finC_ok rfl]; conv => rhs; rw [hv5]
          · rw [hv5] at h1; exact h1
        · rw [if_neg hty, if_neg hty]
          have := takeV_put v 2 l (.inr rfl) h1 hw
          rw [h2] at this
          have e : putL v.ty v.n v.x v.y v.s 2 = v.put 2 := rfl
          rw [e, this]
          simp only
          rw [finC_ok rfl]
def nullsL (l : List K) : List Bool := l.map fun c => decide (c.k = 0)
theorem nullsL_len (l : List K) : (nullsL l).length = l.length := by simp [nullsL]
def cellsPut (ver : Int) : List K → List Col → List Int
  | c :: l, d :: cols => (if c.k = 0 then [] else c.put d.ty ver) ++ cellsPut ver l cols
  | _, _ => []
theorem cellsPut_snoc (ver : Int) : ∀ (l : List K) (cols : List Col) (k : Nat) (h : k < l.length) (h2 : k < cols.length),
    cellsPut ver (l.take (k + 1)) (cols.take (k + 1)) = cellsPut ver (l.take k) (cols.take k) ++ (if l[k].k = 0 then [] else l[k].put cols[k].ty ver)
  | c :: l, d :: cols, 0, _, _ => by simp [cellsPut]
  | c :: l, d :: cols, k + 1, h, h2 => by
    have := cellsPut_snoc ver l cols k (by simpa using h) (by simpa using h2)
    simp only [List.take_succ_cons, cellsPut, this, List.getElem_cons_succ, List.append_assoc]
def rowPut (l : List K) (cols : List Col) (ver : Int) : List Int := mapL (nullsL l) ++ cellsPut ver l cols
def encE (l : List K) (r : Rl) (ver : Int) : Int := if ver = 1 ∨ ver = 2 then fitsE l r else 18
theorem fitsW_zero {l : List K} {r : Rl} (h : fitsE l r = 0) : r.right = 0 ∧ l.length = r.cols.length ∧ ∀ i (h1 : i < l.length) (h2 : i < r.cols.length), l[i].right r.cols[i].ty = 0 := by
  unfold fitsE at h
  by_cases h0 : r.right = 0
  · rw [if_neg (by simpa using h0)] at h
    by_cases h1 : l.length = r.cols.length
    · rw [if_neg (by simpa using h1)] at h
      refine ⟨h0, h1, fun i hi hj => ?_⟩
      have := firstE_all h i hi
      rwa [fitAt_lt hi hj] at this
    · rw [if_pos h1] at h; cases h
  · rw [if_pos h0] at h; exact absurd h h0
theorem fits_cols {l : List K} {r : Rl} (h : fitsE l r = 0) : r.cols.length ≤ 16 ∧ 1 ≤ r.cols.length := by
  have h0 := (fitsW_zero h).1
  unfold Rl.right at h0
  (repeat' split at h0) <;> first | omega | (exfalso; omega)
theorem err_of_right {c : K} {kind ver : Int} (h : c.right kind = 0) (hv : ver = 1 ∨ ver = 2) (hk : c.k ≠ 0) : c.err kind ver = 0 := by
  unfold K.err errC K.right at *
  rw [if_pos hv, if_neg (by simpa using h), if_neg hk]
def larges (l : List K) : Nat → List (Nat × ByteArray)
  | 0 => []
  | k + 1 => if h : k < l.length then (if largeB l[k].k l[k].v.ty l[k].v.s = true then larges l k ++ [(k, l[k].v.s)] else larges l k) else larges l k
theorem larges_yes {l : List K} {k : Nat} (hk : k < l.length) (h : largeB l[k].k l[k].v.ty l[k].v.s = true) : larges l (k + 1) = larges l k ++ [(k, l[k].v.s)] := by
  conv => lhs; unfold larges
  rw [dif_pos hk, if_pos h]
theorem larges_no {l : List K} {k : Nat} (hk : k < l.length) (h : largeB l[k].k l[k].v.ty l[k].v.s = false) : larges l (k + 1) = larges l k := by
  conv => lhs; unfold larges
  rw [dif_pos hk, if_neg (by rw [h]; simp)]
theorem larges_len (l : List K) : ∀ k, (larges l k).length ≤ k
  | 0 => Nat.le_refl _
  | k + 1 => by
    have := larges_len l k
    unfold larges
    split
    · split
      · rw [List.length_append, List.length_singleton]; omega
      · omega
    · omega
def textC (x : Nat × ByteArray) : List Value := [.string x.2]
structure Ho where
  c : Int
  n : Int
def Ho.cells (h : Ho) : List Value := [.int .i64 h.c, .int .i64 h.n]
def strC (s : ByteArray) : List Value := [.string s]
def setText (l : List K) (i : Nat) (s : ByteArray) : List K := if h : i < l.length then l.set i ⟨l[i].k, { l[i].v with s := s }⟩ else l
theorem setText_len (l : List K) (i : Nat) (s : ByteArray) : (setText l i s).length = l.length := by unfold setText; split <;> simp
def fillUp (l : List K) (hs : List Ho) (ts : List ByteArray) : Nat → List K
  | 0 => l
  | k + 1 => if h : k < hs.length ∧ k < ts.length then setText (fillUp l hs ts k) (hs[k]'h.1).c.toNat (ts[k]'h.2) else fillUp l hs ts k
theorem fillUp_succ {l : List K} {hs : List Ho} {ts : List ByteArray} {k : Nat} (h1 : k < hs.length) (h2 : k < ts.length) : fillUp l hs ts (k + 1) = setText (fillUp l hs ts k) hs[k].c.toNat ts[k] := by
  conv => lhs; unfold fillUp
  rw [dif_pos ⟨h1, h2⟩]
theorem fillUp_len (l : List K) (hs : List Ho) (ts : List ByteArray) : ∀ k, (fillUp l hs ts k).length = l.length
  | 0 => rfl
  | k + 1 => by
    unfold fillUp
    split
    · rw [setText_len, fillUp_len l hs ts k]
    · exact fillUp_len l hs ts k
def holeBad (n : Nat) (hs : List Ho) (i : Nat) : Int := if h : i < hs.length then (if hs[i].c < 0 ∨ (n : Int) ≤ hs[i].c then 4 else 0) else 0
def sizeBad (hs : List Ho) (ts : List ByteArray) (i : Nat) : Int := if h : i < hs.length ∧ i < ts.length then (if ((ts[i]'h.2).size : Int) ≠ (hs[i]'h.1).n then 16 else 0) else 0
def fillE (l : List K) (hs : List Ho) (ts : List ByteArray) : Int :=
  if hs.length ≠ ts.length then 17 else if firstE (holeBad l.length hs) hs.length ≠ 0 then 4 else if firstE (sizeBad hs ts) hs.length ≠ 0 then 16 else 0
def fillW (l : List K) (hs : List Ho) (ts : List ByteArray) : List K := if fillE l hs ts = 0 then fillUp l hs ts hs.length else []
end Go.Proofs.YtjnafppkbhldlaaGreat
