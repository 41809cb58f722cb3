/-
Cells, in plain words: from no other bytes; how long they are in both versions.
-/
import Derived.Test.YtmpnopjkpamhaaaCellP
namespace Go.Proofs.Ytmpnopjkpamhaaa
open Go.RowKit

/-- A text with so many letters a behind it. -/
def fillS (s : ByteArray) (m : Nat) : ByteArray := strOfNums (strL s ++ List.replicate m 97)
theorem fillS_zero (s : ByteArray) : fillS s 0 = s := by unfold fillS; rw [List.replicate_zero, List.append_nil, strOf_strL]
theorem fillS_size (s : ByteArray) (m : Nat) : (fillS s m).size = s.size + m := by unfold fillS; rw [strOfNums_size]; simp [strL_len]

theorem strL_empty : strL ByteArray.empty = [] := rfl
theorem fill_plain (m : Nat) : plainB (fillS ByteArray.empty m) = true := by
  refine plain_of fun k hk => ?_
  have hb : isB (List.replicate m (97 : Int)) := fun x hx => by rw [List.eq_of_mem_replicate hx]; decide
  have e : fillS ByteArray.empty m = strOfNums (List.replicate m 97) := by unfold fillS; rw [strL_empty]; rfl
  have h1 : strL (fillS ByteArray.empty m) = List.replicate m 97 := by rw [e]; exact strL_strOf hb
  have hk2 : k < (strL (fillS ByteArray.empty m)).length := by rw [strL_len]; exact hk
  have h2 : (strL (fillS ByteArray.empty m))[k]'hk2 = ((fillS ByteArray.empty m)[k].toNat : Int) := by
    simp only [strL, List.getElem_map, Array.getElem_toList]; rfl
  have h3 : (strL (fillS ByteArray.empty m))[k]'hk2 ∈ strL (fillS ByteArray.empty m) := List.getElem_mem _
  rw [h2, h1] at h3
  have h4 := List.eq_of_mem_replicate h3
  omega

theorem err_mk {k ty n x y : Int} {s : ByteArray} {kind ver : Int} (hv : ver = 1 ∨ ver = 2) (hr : rightC k ty n x y s kind = 0) (hk : k ≠ 0) : errC k ty n x y s kind ver = 0 := by
  unfold errC; rw [if_pos hv, if_neg (by simpa using hr), if_neg hk]
theorem right_same_mk {kind : Int} (h : kind = 5 ∨ kind = 6) : rightC 1 0 0 0 0 ByteArray.empty kind = 0 := by
  have : ByteArray.empty.size = 0 := rfl
  unfold rightC
  (repeat' split) <;> first | rfl | omega | (exfalso; omega) | (rename_i h0; exact absurd ⟨rfl, rfl, rfl, rfl, rfl⟩ h0)
theorem right_text_mk {kind : Int} {s : ByteArray} (hk : kind = 5 ∨ kind = 6) (h1 : s.size ≤ 2048) (h2 : kind = 5 → plainB s = true) : rightV kind 0 ((0 : Nat) : Int) ((0 : Nat) : Int) s = 0 := by
  unfold rightV
  (repeat' split) <;> first | rfl | omega | (exfalso; omega) | (exfalso; rename_i h; simp_all)

def K.fill (c : K) (m : Nat) : K := ⟨c.k, ⟨c.v.ty, c.v.n, c.v.x, c.v.y, fillS c.v.s m⟩⟩
theorem K.fill_zero (c : K) : c.fill 0 = c := by unfold K.fill; rw [fillS_zero]

theorem giveE {α : Type} {a b : α} {S : RS} {l : List Int} {x : Int} (hx : x ≠ 0) (h : (a, giveS S x) = (b, ⟨l, 0⟩)) : False :=
  giveS_e hx (congrArg (fun z => z.2.e) h)

theorem putC_large {ty n : Int} {x y : Nat} {s : ByteArray} {kind ver : Int} (h : largeB 2 ty s = true) : putC 2 ty n x y s kind ver = (3 - ver) :: sevens s.size := by
  unfold putC; rw [if_neg (by decide), if_pos h]
theorem putC_small {ty n : Int} {x y : Nat} {s : ByteArray} {kind ver : Int} (h : largeB 2 ty s = false) : putC 2 ty n x y s kind ver = if ver = 2 then (if kind = 5 ∨ kind = 6 then sevens (s.size + 2) ++ strL s else putL ty n x y s 2) else 1 :: putL ty n x y s 1 := by
  unfold putC; rw [if_neg (by decide), if_neg (by simp [h])]
theorem large_mk {kind : Int} {s : ByteArray} (hk : kind = 5 ∨ kind = 6) (h : 64 < s.size) : largeB 2 kind s = true := by unfold largeB; rw [decide_eq_true_eq]; exact ⟨rfl, hk, h⟩
theorem small_mk {k kind : Int} {s : ByteArray} (h : kind = 5 ∨ kind = 6 → s.size ≤ 64) : largeB k kind s = false := by unfold largeB; rw [decide_eq_false_iff_not]; rintro ⟨-, h1, h2⟩; have := h h1; omega

theorem wf_text (kind : Int) (s : ByteArray) : V.wf ⟨kind, 0, 0, 0, s⟩ := wf_mk (by decide) (by decide) (by decide) (by decide)
theorem k_two : (0 : Int) ≤ 2 := by decide
theorem k_one : (0 : Int) ≤ 1 := by decide
theorem ne_two : (2 : Int) ≠ 0 := by decide
theorem ne_one : (1 : Int) ≠ 0 := by decide

def TakenOk (b : List Int) (kind ver : Int) (c : K) (m : Nat) (l : List Int) : Prop :=
  0 ≤ c.k ∧ (c.fill m).err kind ver = 0 ∧ (c.fill m).v.wf ∧ b = (c.fill m).put kind ver ++ l ∧ m ≤ 2048 ∧ c.v.s.size ≤ 2048

theorem textK_inv {kind : Int} {q : List Int × RS} {c : K} {m : Nat} {l : List Int} (h : textK kind q = ((c, m), ⟨l, 0⟩)) :
    m = 0 ∧ c = ⟨2, ⟨kind, 0, 0, 0, strOfNums q.1⟩⟩ ∧ rightV kind 0 ((0 : Nat) : Int) ((0 : Nat) : Int) (strOfNums q.1) = 0 ∧ q.2 = ⟨l, 0⟩ := by
  unfold textK at h
  simp only [Prod.mk.injEq] at h
  obtain ⟨⟨h1, h2⟩, h3⟩ := h
  obtain ⟨h4, h5⟩ := failS_e (S := q.2) (by rw [h3])
  unfold failS at h3
  rw [if_neg (by simpa using h4)] at h3
  exact ⟨h2.symm, h1.symm, h4, h3⟩

theorem taken_large {b l : List Int} {kind ver : Int} {c : K} {m : Nat} {S : RS} (hv : ver = 1 ∨ ver = 2) (hk : kind = 5 ∨ kind = 6) (hS : isB S.l) (he : S.e = 0) (hb : b = (3 - ver) :: S.l)
    (h : ((fullT kind, (largeR S).1), (largeR S).2) = ((c, m), ⟨l, 0⟩)) : TakenOk b kind ver c m l := by
  obtain ⟨L, rfl⟩ : ∃ L, S = ⟨L, 0⟩ := ⟨_, RS.eta S he⟩
  obtain ⟨z, S2, hz⟩ : ∃ z S2, largeR ⟨L, 0⟩ = (z, S2) := ⟨_, _, rfl⟩
  rw [hz] at h
  simp only [Prod.mk.injEq] at h
  obtain ⟨⟨h1, h2⟩, h3⟩ := h
  subst h1 h2 h3
  obtain ⟨h4, h5, h6⟩ := largeR_inv hS hz
  have hf : (fillS ByteArray.empty z).size = z := by rw [fillS_size]; exact Nat.zero_add _
  have hr : rightC 2 kind 0 ((0 : Nat) : Int) ((0 : Nat) : Int) (fillS ByteArray.empty z) kind = 0 := right_mk (right_text_mk hk (by omega) (fun _ => fill_plain _)) rfl
  refine ⟨k_two, err_mk hv hr ne_two, wf_text _ _, ?_, h6, Nat.zero_le _⟩
  have hL : largeB 2 kind (fillS ByteArray.empty z) = true := large_mk hk (by omega)
  show b = putC 2 kind 0 0 0 (fillS ByteArray.empty z) kind ver ++ l
  rw [putC_large hL, hf, hb, List.cons_append]
  exact congrArg _ h4

theorem takeC_inv {b l : List Int} {kind ver : Int} {c : K} {m : Nat} (hb : isB b) (h : takeC kind ver ⟨b, 0⟩ = ((c, m), ⟨l, 0⟩)) : TakenOk b kind ver c m l := by
  unfold takeC finC at h
  split at h
  · rename_i he; exact absurd (congrArg (fun z => z.2.e) h) he
  rename_i he0
  clear he0
  unfold preC at h
  split at h
  · exact (giveE (by decide) h).elim
  rename_i hv
  rw [Classical.not_not] at hv
  split at h
  · exact (giveE (by decide) h).elim
  rename_i hkd
  have hkd : 1 ≤ kind ∧ kind ≤ 6 := by omega
  split at h
  · rename_i hv1
    subst hv1
    unfold firstC at h
    simp only at h
    split at h
    · rename_i he; exact absurd (congrArg (fun z => z.2.e) h) he
    rename_i he
    rw [ne_eq, Classical.not_not] at he
    have hbx := byteR_inv (b := b) (x := (byteR ⟨b, 0⟩).1) (l := (byteR ⟨b, 0⟩).2.l) (Prod.ext rfl (RS.eta _ he))
    generalize byteR ⟨b, 0⟩ = t at *
    obtain ⟨x, S⟩ := t
    simp only at *
    have hS : isB S.l := fun z hz => hb z (by rw [hbx]; simp [hz])
    split at h
    · exact (giveE (by decide) h).elim
    rename_i hx
    split at h
    · rename_i hx0
      subst hx0
      simp only [Prod.mk.injEq] at h
      obtain ⟨⟨rfl, rfl⟩, h3⟩ := h
      have hk : kind = 5 ∨ kind = 6 := by omega
      refine ⟨(by first | exact k_two | exact k_one), ?_, wf_text _ _, ?_, by omega, Nat.zero_le _⟩
      · rw [K.fill_zero]; exact err_mk (.inl rfl) (right_same_mk hk) ne_one
      · rw [K.fill_zero, hbx, h3]
        show _ = putC 1 _ _ _ _ _ _ _ ++ l
        unfold putC; rw [if_pos rfl]; rfl
    split at h
    · rename_i hx2
      subst hx2
      exact taken_large (.inl rfl) (by omega) hS he hbx h
    have hx1 : x = 1 := by
      have := hb x (by rw [hbx]; simp)
      omega
    subst hx1
    split at h
    · rename_i hk
      obtain ⟨rfl, rfl, h3, h4⟩ := textK_inv h
      rw [RS.eta S he] at h3 h4 ⊢
      obtain ⟨h5, h6⟩ := textR_inv (m := (textR 64 ⟨S.l, 0⟩).1) hS (Prod.ext rfl h4)
      have hbm : isB (textR 64 ⟨S.l, 0⟩).1 := fun z hz => hS z (by rw [h5]; simp [hz])
      have hz : (strOfNums (textR 64 ⟨S.l, 0⟩).1).size ≤ 64 := by rw [strOfNums_size]; exact h6
      refine ⟨(by first | exact k_two | exact k_one), ?_, wf_text _ _, ?_, by omega, by show (strOfNums _).size ≤ _; omega⟩
      · rw [K.fill_zero]; exact err_mk (.inl rfl) (right_mk h3 rfl) ne_two
      · rw [K.fill_zero, hbx]
        show _ = putC 2 kind 0 0 0 (strOfNums _) kind 1 ++ l
        rw [putC_small (small_mk fun _ => hz), if_neg (by decide)]
        unfold putL
        rw [if_neg (by omega), if_neg (by omega), if_neg (by omega), if_neg (by omega), strL_strOf hbm, strOfNums_size, List.cons_append, ← h5]
    · rename_i hk
      simp only [Prod.mk.injEq] at h
      obtain ⟨⟨rfl, rfl⟩, h3⟩ := h
      rw [RS.eta S he] at h3 ⊢
      obtain ⟨h4, h5, h6, h7⟩ := takeV_inv (v := (takeV kind 1 ⟨S.l, 0⟩).1) hS (.inl rfl) (Prod.ext rfl h3)
      refine ⟨k_two, ?_, ?_, ?_, by omega, (right_zero h4).2.2.1⟩
      · rw [K.fill_zero]; exact err_mk (.inl rfl) (right_mk h4 h6) ne_two
      · rw [K.fill_zero]; exact h5
      · rw [K.fill_zero, hbx]
        show _ = putC 2 _ _ _ _ _ kind 1 ++ l
        rw [putC_small (small_mk fun hh => by rw [h6] at hh; exact absurd hh (by omega)), if_neg (by decide), List.cons_append]
        congr 1
  · rename_i hv1
    obtain rfl : ver = 2 := by omega
    split at h
    · rename_i hk
      unfold secondC at h
      simp only at h
      split at h
      · rename_i he; exact absurd (congrArg (fun z => z.2.e) h) he
      rename_i he
      rw [ne_eq, Classical.not_not] at he
      obtain ⟨hbx, hx64, hx66⟩ := uintR_inv (x := (uintR 66 ⟨b, 0⟩).1) (l := (uintR 66 ⟨b, 0⟩).2.l) hb (Prod.ext rfl (RS.eta _ he))
      generalize uintR 66 ⟨b, 0⟩ = t at *
      obtain ⟨x, S⟩ := t
      simp only at *
      have hS : isB S.l := fun z hz => hb z (by rw [hbx]; simp [hz])
      rw [sevens_lt (by omega)] at hbx
      split at h
      · rename_i hx0
        subst hx0
        simp only [Prod.mk.injEq] at h
        obtain ⟨⟨rfl, rfl⟩, h3⟩ := h
        refine ⟨(by first | exact k_two | exact k_one), ?_, wf_text _ _, ?_, by omega, Nat.zero_le _⟩
        · rw [K.fill_zero]; exact err_mk (.inr rfl) (right_same_mk hk) ne_one
        · rw [K.fill_zero, hbx, h3]
          show _ = putC 1 _ _ _ _ _ _ _ ++ l
          unfold putC; rw [if_pos rfl]; rfl
      split at h
      · rename_i hx1
        subst hx1
        exact taken_large (.inr rfl) hk hS he hbx h
      obtain ⟨rfl, rfl, h3, h4⟩ := textK_inv h
      rw [RS.eta S he] at h3 h4 ⊢
      obtain ⟨h5, h6⟩ := bytesR_inv (m := (bytesR (x - 2) ⟨S.l, 0⟩).1) (Prod.ext rfl h4)
      have hbm : isB (bytesR (x - 2) ⟨S.l, 0⟩).1 := fun z hz => hS z (by rw [h5]; simp [hz])
      have hz : (strOfNums (bytesR (x - 2) ⟨S.l, 0⟩).1).size = x - 2 := by rw [strOfNums_size]; exact h6
      refine ⟨(by first | exact k_two | exact k_one), ?_, wf_text _ _, ?_, by omega, by show (strOfNums _).size ≤ _; omega⟩
      · rw [K.fill_zero]; exact err_mk (.inr rfl) (right_mk h3 rfl) ne_two
      · rw [K.fill_zero, hbx]
        show _ = putC 2 kind 0 0 0 (strOfNums _) kind 2 ++ l
        rw [putC_small (small_mk fun _ => by omega), if_pos rfl, if_pos hk, strL_strOf hbm, hz, show x - 2 + 2 = x by omega, sevens_lt (by omega), List.append_assoc, ← h5]
    · rename_i hk
      simp only [Prod.mk.injEq] at h
      obtain ⟨⟨rfl, rfl⟩, h3⟩ := h
      obtain ⟨h4, h5, h6, h7⟩ := takeV_inv (v := (takeV kind 2 ⟨b, 0⟩).1) hb (.inr rfl) (Prod.ext rfl h3)
      refine ⟨k_two, ?_, ?_, ?_, by omega, (right_zero h4).2.2.1⟩
      · rw [K.fill_zero]; exact err_mk (.inr rfl) (right_mk h4 h6) ne_two
      · rw [K.fill_zero]; exact h5
      · rw [K.fill_zero]
        show _ = putC 2 _ _ _ _ _ kind 2 ++ l
        rw [putC_small (small_mk fun hh => by rw [h6] at hh; exact absurd hh (by omega)), if_pos rfl, if_neg hk]
        exact h7

theorem complex_one (x y : Nat) : (complexL x y 1).length = 16 := by unfold complexL; rw [if_neg (by decide), List.length_append, floatL_1, floatL_1]
theorem complex_two (x y : Nat) : (complexL x y 2).length ≤ 21 := by
  have hx := floatL_len (x := x) (ver := 2)
  have hy := floatL_len (x := y) (ver := 2)
  unfold complexL
  rw [if_pos rfl]
  (repeat' split) <;> simp <;> omega
/-- Version 2 is never longer, but by some bytes. -/
theorem putC_short {k ty n : Int} {x y : Nat} {s : ByteArray} {kind : Int} (hk0 : 0 ≤ k) (h1 : errC k ty n x y s kind 1 = 0) (hn : -9223372036854775808 ≤ n ∧ n < 9223372036854775808) :
    1 ≤ (putC k ty n x y s kind 1).length ∧ (putC k ty n x y s kind 2).length ≤ (putC k ty n x y s kind 1).length + (if kind = 2 ∨ kind = 3 then 2 else if kind = 4 then 5 else 0) := by
  obtain ⟨hv, hr, hk, hkd⟩ := errC_zero hk0 h1
  rcases hk with rfl | rfl
  · unfold putC; rw [if_pos rfl, if_pos rfl]; exact ⟨Nat.le_refl _, Nat.le_add_right _ _⟩
  · obtain ⟨h3, h4⟩ := right_full hr
    have hz := right_zero h3
    cases hL : largeB 2 ty s with
    | true => rw [putC_large hL, putC_large hL]; exact ⟨by simp, by simp⟩
    | false =>
      rw [putC_small hL, putC_small hL, if_pos rfl, if_neg (by decide)]
      unfold largeB at hL
      rw [decide_eq_false_iff_not] at hL
      subst h4
      by_cases ht : ty = 5 ∨ ty = 6
      · have h64 : s.size ≤ 64 := by rcases Nat.lt_or_ge 64 s.size with h | h; exact absurd ⟨by first | rfl | trivial, ht, h⟩ hL; exact h
        rw [if_pos ht]
        have e : putL ty n x y s 1 = sevens s.size ++ strL s := by unfold putL; rw [if_neg (by omega), if_neg (by omega), if_neg (by omega), if_neg (by omega)]
        rw [e, sevens_lt (by omega), sevens_lt (by omega)]
        refine ⟨by simp, ?_⟩
        simp
        (repeat' split) <;> omega
      · rw [if_neg ht]
        have hx := sevens_len10 (x := rev x) rev_lt
        have hy := sevens_len10 (x := rev y) rev_lt
        have hzn := sevens_len10 (zig_lt n hn)
        have h5 : ty = 1 ∨ ty = 2 ∨ ty = 3 ∨ ty = 4 := by omega
        refine ⟨by simp, ?_⟩
        rcases h5 with rfl | rfl | rfl | rfl
        · simp [putL]
        · simp [putL, wordL_len]; omega
        · simp [putL, floatL, wordL_len]; omega
        · have c1 : (putL 4 n x y s 1).length = 16 := complex_one x y
          have c2 : (putL 4 n x y s 2).length ≤ 21 := complex_two x y
          simp only [List.length_cons, c1, show ¬ ((4 : Int) = 2 ∨ (4 : Int) = 3) by decide, if_false, if_true]
          omega

end Go.Proofs.Ytmpnopjkpamhaaa
