/-
Cells, in plain words: from no other bytes; how long they are in both versions.
-/
import Derived.Test.YtjnafppkbhldlaaGreatP13
set_option maxRecDepth 100000
set_option maxHeartbeats 16000000
namespace Go.Proofs.YtjnafppkbhldlaaGreat
open Go.RowKit
def fillS (s : ByteArray) (m : Nat) : ByteArray := strOfNums (strL s ++ List.replicate m 97)
theorem fillS_zero (s : ByteArray) : fillS s 0 = s := by unfold fillS; rw [List.replicate_zero, List.append_nil, strOf_strL]
theorem fillS_size (s : ByteArray) (m : Nat) : (fillS s m).size = s.size + m := by unfold fillS; rw [strOfNums_size]; simp [strL_len]
theorem strL_empty : strL ByteArray.empty = [] := rfl
theorem fill_plain (m : Nat) : plainB (fillS ByteArray.empty m) = true := by
  refine plain_of fun k hk => ?_
  have hb : isB (List.replicate m (97 : Int)) := fun x hx => by rw [List.eq_of_mem_replicate hx]; decide
  have e : fillS ByteArray.empty m = strOfNums (List.replicate m 97) := by unfold fillS; rw [strL_empty]; rfl
  have h1 : strL (fillS ByteArray.empty m) = List.replicate m 97 := by rw [e]; exact strL_strOf hb
  have hk2 : k < (strL (fillS ByteArray.empty m)).length := by rw [strL_len]; exact hk
  have h2 : (strL (fillS ByteArray.empty m))[k]'hk2 = ((fillS ByteArray.empty m)[k].toNat : Int) := by
    simp only [strL, List.getElem_map, Array.getElem_toList]; rfl
  have h3 : (strL (fillS ByteArray.empty m))[k]'hk2 ∈ strL (fillS ByteArray.empty m) := List.getElem_mem _
  rw [h2, h1] at h3
  have h4 := List.eq_of_mem_replicate h3
  omega
theorem err_mk {k ty n x y : Int} {s : ByteArray} {kind ver : Int} (hv : ver = 1 ∨ ver = 2) (hr : rightC k ty n x y s kind = 0) (hk : k ≠ 0) : errC k ty n x y s kind ver = 0 := by
  unfold errC; rw [if_pos hv, if_neg (by simpa using hr), if_neg hk]
theorem right_same_mk {kind : Int} (h : kind = 5 ∨ kind = 6) : rightC 1 0 0 0 0 ByteArray.empty kind = 0 := by
  have : ByteArray.empty.size = 0 := rfl
  unfold rightC
  (repeat' split) <;> first | rfl | omega | (exfalso; omega) | (rename_i h0; exact absurd ⟨rfl, rfl, rfl, rfl, rfl⟩ h0)
theorem right_text_mk {kind : Int} {s : ByteArray} (hk : kind = 5 ∨ kind = 6) (h1 : s.size ≤ 2048) (h2 : kind = 5 → plainB s = true) : rightV kind 0 ((0 : Nat) : Int) ((0 : Nat) : Int) s = 0 := by
  unfold rightV
  (repeat' split) <;> first | rfl | omega | (exfalso; omega) | (exfalso; rename_i h; simp_all)
def K.fill (c : K) (m : Nat) : K := ⟨c.k, ⟨c.v.ty, c.v.n, c.v.x, c.v.y, fillS c.v.s m⟩⟩
theorem K.fill_zero (c : K) : c.fill 0 = c := by unfold K.fill; rw [fillS_zero]
theorem giveE {α : Type} {a b : α} {S : RS} {l : List Int} {x : Int} (hx : x ≠ 0) (h : (a, giveS S x) = (b, ⟨l, 0⟩)) : False :=
  giveS_e hx (congrArg (fun z => z.2.e) h)
theorem putC_large {ty n : Int} {x y : Nat} {s : ByteArray} {kind ver : Int} (h : largeB 2 ty s = true) : putC 2 ty n x y s kind ver = (3 - ver) :: sevens s.size := by
  unfold putC; rw [if_neg (by decide), if_pos h]
theorem putC_small {ty n : Int} {x y : Nat} {s : ByteArray} {kind ver : Int} (h : largeB 2 ty s = false) : putC 2 ty n x y s kind ver = if ver = 2 then (if kind = 5 ∨ kind = 6 then sevens (s.size + 2) ++ strL s else putL ty n x y s 2) else 1 :: putL ty n x y s 1 := by
  unfold putC; rw [if_neg (by decide), if_neg (by simp [h])]
theorem large_mk {kind : Int} {s : ByteArray} (hk : kind = 5 ∨ kind = 6) (h : 64 < s.size) : largeB 2 kind s = true := by unfold largeB; rw [decide_eq_true_eq]; exact ⟨rfl, hk, h⟩
theorem small_mk {k kind : Int} {s : ByteArray} (h : kind = 5 ∨ kind = 6 → s.size ≤ 64) : largeB k kind s = false := by unfold largeB; rw [decide_eq_false_iff_not]; rintro ⟨-, h1, h2⟩; have := h h1; omega
theorem wf_text (kind : Int) (s : ByteArray) : V.wf ⟨kind, 0, 0, 0, s⟩ := wf_mk (by decide) (by decide) (by decide) (by decide)
theorem k_two : (0 : Int) ≤ 2 := by decide
theorem k_one : (0 : Int) ≤ 1 := by decide
theorem ne_two : (2 : Int) ≠ 0 := by decide
theorem ne_one : (1 : Int) ≠ 0 := by decide
def TakenOk (b : List Int) (kind ver : Int) (c : K) (m : Nat) (l : List Int) : Prop :=
  0 ≤ c.k ∧ (c.fill m).err kind ver = 0 ∧ (c.fill m).v.wf ∧ b = (c.fill m).put kind ver ++ l ∧ m ≤ 2048 ∧ c.v.s.size ≤ 2048
theorem textK_inv {kind : Int} {q : List Int × RS} {c : K} {m : Nat} {l : List Int} (h : textK kind q = ((c, m), ⟨l, 0⟩)) :
    m = 0 ∧ c = ⟨2, ⟨kind, 0, 0, 0, strOfNums q.1⟩⟩ ∧ rightV kind 0 ((0 : Nat) : Int) ((0 : Nat) : Int) (strOfNums q.1) = 0 ∧ q.2 = ⟨l, 0⟩ := by
  unfold textK at h
  simp only [Prod.mk.injEq] at h
  obtain ⟨⟨h1, h2⟩, h3⟩ := h
  obtain ⟨h4, h5⟩ := failS_e (S := q.2) (by rw [h3])
  unfold failS at h3
  rw [if_neg (by simpa using h4)] at h3
  exact ⟨h2.symm, h1.symm, h4, h3⟩
theorem taken_large {b l : List Int} {kind ver : Int} {c : K} {m : Nat} {S : RS} (hv : ver = 1 ∨ ver = 2) (hk : kind = 5 ∨ kind = 6) (hS : isB S.l) (he : S.e = 0) (hb : b = (3 - ver) :: S.l)
    (h : ((fullT kind, (largeR S).1), (largeR S).2) = ((c, m), ⟨l, 0⟩)) : TakenOk b kind ver c m l := by
  obtain ⟨L, rfl⟩ : ∃ L, S = ⟨L, 0⟩ := ⟨_, RS.eta S he⟩
  obtain ⟨z, S2, hz⟩ : ∃ z S2, largeR ⟨L, 0⟩ = (z, S2) := ⟨_, _, rfl⟩
  rw [hz] at h
  simp only [Prod.mk.injEq] at h
  obtain ⟨⟨h1, h2⟩, h3⟩ := h
  subst h1 h2 h3
  obtain ⟨h4, h5, h6⟩ := largeR_inv hS hz
  have hf : (fillS ByteArray.empty z).size = z := by rw [fillS_size]; exact Nat.zero_add _
  have hr : rightC 2 kind 0 ((0 : Nat) : Int) ((0 : Nat) : Int) (fillS ByteArray.empty z) kind = 0 := right_mk (right_text_mk hk (by omega) (fun _ => fill_plain _)) rfl
  refine ⟨k_two, err_mk hv hr ne_two, wf_text _ _, ?_, h6, Nat.zero_le _⟩
  have hL : largeB 2 kind (fillS ByteArray.empty z) = true := large_mk hk (by omega)
  show b = putC 2 kind 0 0 0 (fillS ByteArray.empty z) kind ver ++ l
  rw [putC_large hL, hf, hb, List.cons_append]
  exact congrArg _ h4
theorem takeC_inv {b l : List Int} {kind ver : Int} {c : K} {m : Nat} (hb : isB b) (h : takeC kind ver ⟨b, 0⟩ = ((c, m), ⟨l, 0⟩)) : TakenOk b kind ver c m l := by
  unfold takeC finC at h
  split at h
  · rename_i he; exact absurd (congrArg (fun z => z.2.e) h) he
  rename_i he0
  clear he0
  unfold preC at h
  split at h
  · exact (giveE (by decide) h).elim
  rename_i hv
  rw [Classical.not_not] at hv
  split at h
  · exact (giveE (by decide) h).elim
  rename_i hkd
  have hkd : 1 ≤ kind ∧ kind ≤ 6 := by omega
  split at h
  · rename_i hv1
    subst hv1
    unfold firstC at h
    simp only at h
    split at h
    · rename_i he; exact absurd (congrArg (fun z => z.2.e) h) he
    rename_i he
    rw [ne_eq, Classical.not_not] at he
    have hbx := byteR_inv (b := b) (x := (byteR ⟨b, 0⟩).1) (l := (byteR ⟨b, 0⟩).2.l) (Prod.ext rfl (RS.eta _ he))
    generalize byteR ⟨b, 0⟩ = t at *
    obtain ⟨x, S⟩ := t
    simp only at *
    have hS : isB S.l := fun z hz => hb z (by rw [hbx]; simp [hz])
    split at h
    · exact (giveE (by decide) h).elim
    rename_i hx
    split at h
    · rename_i hx0
      subst hx0
      simp only [Prod.mk.injEq] at h
      obtain ⟨⟨rfl, rfl⟩, h3⟩ := h
      have hk : kind = 5 ∨ kind = 6 := by omega
      refine ⟨(by first | exact k_two | exact k_one), ?_, wf_text _ _, ?_, by omega, Nat.zero_le _⟩
      · rw [K.fill_zero]; exact err_mk (.inl rfl) (right_same_mk hk) ne_one
      · rw [K.fill_zero, hbx, h3]
        show _ = putC 1 _ _ _ _ _ _ _ ++ l
        unfold putC; rw [if_pos rfl]; rfl
    split at h
    · rename_i hx2
      subst hx2
      exact taken_large (.inl rfl) (by omega) hS he hbx h
    have hx1 : x = 1 := by
      have := hb x (by rw [hbx]; simp)
      omega
    subst hx1
    split at h
    · rename_i hk
      obtain ⟨rfl, rfl, h3, h4⟩ := textK_inv h
      rw [RS.eta S he] at h3 h4 ⊢
      obtain ⟨h5, h6⟩ := textR_inv (m := (textR 64 ⟨S.l, 0⟩).1) hS (Prod.ext rfl h4)
      have hbm : isB (textR 64 ⟨S.l, 0⟩).1 := fun z hz => hS z (by rw [h5]; simp [hz])
      have hz : (strOfNums (textR 64 ⟨S.l, 0⟩).1).size ≤ 64 := by rw [strOfNums_size]; exact h6
      refine ⟨(by first | exact k_two | exact k_one), ?_, wf_text _ _, ?_, by omega, by show (strOfNums _).size ≤ _; omega⟩
      · rw [K.fill_zero]; exact err_mk (.inl rfl) (right_mk h3 rfl) ne_two
      · rw [K.fill_zero, hbx]
        show _ = putC 2 kind 0 0 0 (strOfNums _) kind 1 ++ l
        rw [putC_small (small_mk fun _ => hz), if_neg (by decide)]
        unfold putL
        rw [if_neg (by omega), if_neg (by omega), if_neg (by omega), if_neg (by omega), strL_strOf hbm, strOfNums_size, List.cons_append, ← h5]
    · rename_i hk
      simp only [Prod.mk.injEq] at h
      obtain ⟨⟨rfl, rfl⟩, h3⟩ := h
      rw [RS.eta S he] at h3 ⊢
      obtain ⟨h4, h5, h6, h7⟩ := takeV_inv (v := (takeV kind 1 ⟨S.l, 0⟩).1) hS (.inl rfl) (Prod.ext rfl h3)
      refine ⟨k_two, ?_, ?_, ?_, by omega, (right_zero h4).2.2.1⟩
      · rw [K.fill_zero]; exact err_mk (.inl rfl) (right_mk h4 h6) ne_two
      · rw [K.fill_zero]; exact h5
      · rw [K.fill_zero, hbx]
        show _ = putC 2 _ _ _ _ _ kind 1 ++ l
        rw [putC_small (small_mk fun hh => by rw [h6] at hh; exact absurd hh (by omega)), if_neg (by decide), List.cons_append]
        congr 1
  · rename_i hv1
    obtain rfl : ver = 2 := by omega
    split at h
    · rename_i hk
      unfold secondC at h
      simp only at h
      split at h
      · rename_i he; exact absurd (congrArg (fun z => z.2.e) h) he
      rename_i he
      rw [ne_eq, Classical.not_not] at he
      obtain ⟨hbx, hx64, hx66⟩ := uintR_inv (x := (uintR 66 ⟨b, 0⟩).1) (l := (uintR 66 ⟨b, 0⟩).2.l) hb (Prod.ext rfl (RS.eta _ he))
      generalize uintR 66 ⟨b, 0⟩ = t at *
      obtain ⟨x, S⟩ := t
      simp only at *
      have hS : isB S.l := fun z hz => hb z (by rw [hbx]; simp [hz])
      rw [sevens_lt (by omega)] at hbx
      split at h
      · rename_i hx0
        subst hx0
        simp only [Prod.mk.injEq] at h
        obtain ⟨⟨rfl, rfl⟩, h3⟩ := h
        refine ⟨(by first | exact k_two | exact k_one), ?_, wf_text _ _, ?_, by omega, Nat.zero_le _⟩
        · rw [K.fill_zero]; exact err_mk (.inr rfl) (right_same_mk hk) ne_one
        · rw [K.fill_zero, hbx, h3]
          show _ = putC 1 _ _ _ _ _ _ _ ++ l
          unfold putC; rw [if_pos rfl]; rfl
      split at h
      · rename_i hx1
        subst hx1
        exact taken_large (.inr rfl) hk hS he hbx h
      obtain ⟨rfl, rfl, h3, h4⟩ := textK_inv h
      rw [RS.eta S he] at h3 h4 ⊢
      obtain ⟨h5, h6⟩ := bytesR_inv (m := (bytesR (x - 2) ⟨S.l, 0⟩).1) (Prod.ext rfl h4)
      have hbm : isB (bytesR (x - 2) ⟨S.l, 0⟩).1 := fun z hz => hS z (by rw [h5]; simp [hz])
      have hz : (strOfNums (bytesR (x - 2) ⟨S.l, 0⟩).1).size = x - 2 := by rw [strOfNums_size]; exact h6
      refine ⟨(by first | exact k_two | exact k_one), ?_, wf_text _ _, ?_, by omega, by show (strOfNums _).size ≤ _; omega⟩
      · rw [K.fill_zero]; exact err_mk (.inr rfl) (right_mk h3 rfl) ne_two
      · rw [K.fill_zero, hbx]
        show _ = putC 2 kind 0 0 0 (strOfNums _) kind 2 ++ l
        rw [putC_small (small_mk fun _ => by omega), if_pos rfl, if_pos hk, strL_strOf hbm, hz, show x - 2 + 2 = x by omega, sevens_lt (by omega), List.append_assoc, ← h5]
    · rename_i hk
      simp only [Prod.mk.injEq] at h
      obtain ⟨⟨rfl, rfl⟩, h3⟩ := h
      obtain ⟨h4, h5, h6, h7⟩ := takeV_inv (v := (takeV kind 2 ⟨b, 0⟩).1) hb (.inr rfl) (Prod.ext rfl h3)
      refine ⟨k_two, ?_, ?_, ?_, by omega, (right_zero h4).2.2.1⟩
      · rw [K.fill_zero]; exact err_mk (.inr rfl) (right_mk h4 h6) ne_two
      · rw [K.fill_zero]; exact h5
      · rw [K.fill_zero]
        show _ = putC 2 _ _ _ _ _ kind 2 ++ l
        rw [putC_small (small_mk fun hh => by rw [h6] at hh; exact absurd hh (by omega)), if_pos rfl, if_neg hk]
        exact h7
theorem gave_form {st : RS} (h : st.ok) (he : st.e ≠ 0) : st = ⟨[], st.e⟩ := by
  cases st; simp only at he; have := h.1 he; simp only at this; subst this; rfl
theorem uintR_gave {m : Nat} {e : Int} (he : e ≠ 0) : uintR m ⟨[], e⟩ = (0, ⟨[], e⟩) := by
  have h : giveS ⟨[], e⟩ 1 = ⟨[], e⟩ := giveS_gave 1 he
  unfold uintR
  have hd : digs ([] : List Int) 0 0 = (0, 0, 1) := rfl
  simp only [hd]
  exact (if_pos (by decide)).trans (congrArg (Prod.mk 0) h)
theorem bytesR_gave {n : Nat} {e : Int} (he : e ≠ 0) : bytesR n ⟨[], e⟩ = ([], ⟨[], e⟩) := by
  unfold bytesR
  split
  · rw [giveS_gave 1 he]
  · simp
theorem byteR_gave {e : Int} (he : e ≠ 0) : byteR ⟨[], e⟩ = (0, ⟨[], e⟩) := by unfold byteR; rw [bytesR_gave he]; rfl
theorem wordR_gave {e : Int} (he : e ≠ 0) : wordR ⟨[], e⟩ = (0, ⟨[], e⟩) := by unfold wordR; rw [bytesR_gave he]; rfl
theorem floatR_gave {ver : Int} {e : Int} (he : e ≠ 0) : (floatR ver ⟨[], e⟩).2 = ⟨[], e⟩ := by
  unfold floatR; split
  · rw [wordR_gave he]
  · simp only; rw [uintR_gave he]
theorem failS_gave {e x : Int} (he : e ≠ 0) : failS ⟨[], e⟩ x = ⟨[], e⟩ := by
  unfold failS; split
  · exact giveS_gave x he
  · rfl
theorem partR_gave {t : Bool} {e : Int} (he : e ≠ 0) : (partR t ⟨[], e⟩).2 = ⟨[], e⟩ := by
  unfold partR; split
  · simp only
    have h := floatR_gave (ver := 2) he
    rw [h]
    split
    · exact giveS_gave 3 he
    · rfl
  · rfl
theorem complexR_gave {ver : Int} {e : Int} (he : e ≠ 0) : (complexR ver ⟨[], e⟩).2 = ⟨[], e⟩ := by
  unfold complexR; split
  · simp only; rw [wordR_gave he]; simp only; rw [wordR_gave he]
  · simp only; rw [byteR_gave he]; simp only
    rw [if_neg (by decide), partR_gave he, partR_gave he]
theorem textR_gave {m : Nat} {e : Int} (he : e ≠ 0) : textR m ⟨[], e⟩ = ([], ⟨[], e⟩) := by
  unfold textR; simp only; rw [uintR_gave he]; simp only; rw [bytesR_gave he]
theorem bodyR_gave {kind ver : Int} {e : Int} (he : e ≠ 0) : (bodyR kind ver ⟨[], e⟩).2 = ⟨[], e⟩ := by
  unfold bodyR
  (repeat' split)
  · simp only; rw [byteR_gave he]
  · simp only; rw [wordR_gave he]
  · simp only [intR]; rw [uintR_gave he]
  · simp only; rw [floatR_gave he]
  · simp only; rw [complexR_gave he]
  · simp only; rw [textR_gave he]
  · rfl
theorem takeV_gave {kind ver : Int} {e : Int} (he : e ≠ 0) : (takeV kind ver ⟨[], e⟩).2 = ⟨[], e⟩ := by
  unfold takeV
  split
  · simp only
    rw [bodyR_gave he, failS_gave he, if_pos he]
  · exact giveS_gave 18 he
def tailC (kind : Int) (S : RS) : (K × Nat) × RS := if kind = 5 ∨ kind = 6 then textK kind (textR 64 S) else ((⟨2, (takeV kind 1 S).1⟩, 0), (takeV kind 1 S).2)
theorem tailC_gave {kind : Int} {e : Int} (he : e ≠ 0) : (tailC kind ⟨[], e⟩).2 = ⟨[], e⟩ := by
  unfold tailC
  split
  · rw [textR_gave he]; exact failS_gave he
  · exact takeV_gave he
theorem largeR_le {st : RS} : (largeR st).1 ≤ 2048 := by unfold largeR; exact uintR_le 2048
theorem giveS_nil {st : RS} {x : Int} (hx : x ≠ 0) (h : st.ok) : ∃ e, e ≠ 0 ∧ giveS st x = ⟨[], e⟩ := by
  unfold giveS
  split
  · exact ⟨x, hx, rfl⟩
  · rename_i he; exact ⟨st.e, he, gave_form h he⟩
theorem celof_any (ty n : Int) (x y : Nat) (s : ByteArray) (w : World) :
    Calls Tryz.prog 307 #[.agg #[.int .u8 ty, .int .i64 n, .complex .f64 x y, .string s]] w fun e w' =>
      e = .returned (.agg #[.int .u8 2, .int .u8 ty, .int .i64 n, .complex .f64 x y, .string s]) ∧ Ext w w' := by
  go_enter Tryz.func307, Tryz.ntmps307
  go_wp2
  simp [bodyPost, results, Tryz.results307, go_sem]
  exact eX
theorem clarge_any (k ty n : Int) (x y : Nat) (s : ByteArray) (w : World) :
    Calls Tryz.prog 248 #[.agg #[.int .u8 k, .int .u8 ty, .int .i64 n, .complex .f64 x y, .string s]] w fun e w' => e = .returned (.bool (largeB k ty s)) ∧ Ext w w' := by
  by_cases hk : k = 2
  · subst hk
    by_cases ht : ty = 5 ∨ ty = 6
    · have hL : Hid (largeB 2 ty s = decide (64 < s.size)) := Hm (by unfold largeB; exact decide_eq_decide.2 ⟨fun h => h.2.2, fun h => ⟨rfl, ht, h⟩⟩)
      have HT := Hm (fun w => texty_yes ty w ht)
      clear ht
      go_enter Tryz.func248, Tryz.ntmps248
      go_wp2_with (go_at_call 296; refine (HT.out _).mono ?_; rintro e w1 ⟨rfl, rfl⟩)
      go_ret
      exact ⟨ret_bool (by rw [hL.out]; first | rfl | (apply decide_eq_decide.2; omega)), by exact eX⟩
    · have hL : Hid (largeB 2 ty s = false) := Hm (by unfold largeB; rw [decide_eq_false_iff_not]; exact fun h => ht h.2.1)
      have HT := Hm (fun w => texty_no ty w (by omega))
      clear ht
      go_enter Tryz.func248, Tryz.ntmps248
      go_wp2_with (go_at_call 296; refine (HT.out _).mono ?_; rintro e w1 ⟨rfl, rfl⟩)
      go_ret
      exact ⟨ret_bool hL.out.symm, by exact eX⟩
  · have hL : Hid (largeB k ty s = false) := Hm (by unfold largeB; rw [decide_eq_false_iff_not]; exact fun h => hk h.1)
    have hk2 : (k == 2) = false := by simpa using hk
    clear hk
    go_enter Tryz.func248, Tryz.ntmps248
    go_wp2
    go_ret
    exact ⟨ret_bool hL.out.symm, by exact eX⟩
theorem step_app_str {w : World} {ops : Array Oper} {o : Oper} {a : Act} {K : Act → World → Prop} {Q : Exit → Act → World → Prop} {E : Prop} (hgd : o.guard = none) (s x : Operand)
    (ho : o.op = .call { callee := .builtin .append, args := #[s, x], argTypes := #[27, 9] })
    (base : Nat) (v : Value) (l : List Int) (hs : a.eval s = v) (hown : OB w base v l) (u : ByteArray) (hx : a.eval x = .string u)
    (h63 : l.length + u.size ≤ 1000000000) (hbase : base ≤ w.heap.size)
    (h : ∀ v' w', OB w' base v' (l ++ strL u) → w.grownBy w' v.ownBlock → K (a.put o.dst v') w') :
    if Region.wanted o (yielded ops a.tmps) = true then Oper.wp Tryz.prog o a w K Q else E := by
  have hw : Region.wanted o (yielded ops a.tmps) = true := by simp [Region.wanted, hgd]
  rw [if_pos hw]
  obtain ⟨i0, hi, hz0, hz1, hz2⟩ := info_parts Tryz.infoU8
  obtain ⟨v', w', hr, h2, h3, h4⟩ := Go.Lib.run_append_own_string (P := Tryz.prog) w base 27 9 o.type 5 i0 Tryz.underlying27 Tryz.underlying9 hi hz0 hz1 hz2 v _ _ hown u (by unfold maxLen; omega) (by omega) hbase
  unfold Oper.wp execOp
  simp only [ho, resolve, invoke, builtin, Sem.run_bind, Sem.run_pure, Result.andThen_ok, List.map_toArray, List.map_cons, List.map_nil, hs, hx, hr]
  refine h v' w' ?_ h3
  rw [bs_str] at h2
  exact OB.push h2 (by rw [strL_len])
theorem clong_any (v : Value) (l : List Int) (tag : Nat) (k ty n : Int) (x y : Nat) (s : ByteArray) (w : World) (hl : Sl w v 1 (l.map bcell)) (hlen : l.length ≤ 800000) (ht : tag < 128) (hs : s.size ≤ 9223372036854775807) :
    Calls Tryz.prog 300 #[v, .int .u64 tag, .agg #[.int .u8 k, .int .u8 ty, .int .i64 n, .complex .f64 x y, .string s]] w fun e w' => ∃ v', e = .returned v' ∧ OB w' w.heap.size v' (l ++ (tag : Int) :: sevens s.size) ∧ Ext w w' := by
  have HL := Hm hl
  have HT := Hm (sevens_lt ht)
  have hw : IntKind.u64.wrap (s.size : Int) = (s.size : Int) := by rw [u64_wrap]; omega
  clear hl
  go_enter Tryz.func300, Tryz.ntmps300
  go_upto_region 1 with (fail)
  go_region_held3 (fun w' => Ext (w.alloc (.cells #[.int .u8 k, .int .u8 ty, .int .i64 n, .complex .f64 x y, .string s] 226)) w' ∧ (∀ b o, b < (w.alloc (.cells #[.int .u8 k, .int .u8 ty, .int .i64 n, .complex .f64 x y, .string s] 226)).heap.size → w'.cell? ⟨b, o, none⟩ = (w.alloc (.cells #[.int .u8 k, .int .u8 ty, .int .i64 n, .complex .f64 x y, .string s] 226)).cell? ⟨b, o, none⟩) ∧ (∀ b o, b < (w.alloc (.cells #[.int .u8 k, .int .u8 ty, .int .i64 n, .complex .f64 x y, .string s] 226)).heap.size → w'.frozen? ⟨b, o, none⟩ = (w.alloc (.cells #[.int .u8 k, .int .u8 ty, .int .i64 n, .complex .f64 x y, .string s] 226)).frozen? ⟨b, o, none⟩)) ((exact held_of (by exact eX)))
    (first
      | (go_at_call_of 192 (Value.int IntKind.u64 (tag : Int)); refine (putUint_any v l tag _ (HL.out.ext (by exact eX)) (by omega) (by omega)).mono ?_; rintro e w1 ⟨v1, rfl, ho1, hb1⟩; have hE1 : Ext w w1 := (by exact eX); have HE1 := Hm hE1; have HO1 := Hm (by rw [HT.out] at ho1; exact ho1); clear ho1 hE1)
      | (go_at_call 192; refine (putUint_any v1 (l ++ [(tag : Int)]) s.size _ (HO1.out.sl.ext (by exact eX)) (by omega) (by simp; omega)).mono ?_; rintro e w2 ⟨v2, rfl, ho2, hb2⟩; have hE2 : Ext w1 w2 := (by exact eX); have HE2 := Hm hE2; have HO2 := Hm (ho2.base (Ext.size (by exact eX : Ext w _))); clear ho2 hE2))
  go_wp2
  go_ret
  refine ⟨_, rfl, ?_, HE1.out.trans HE2.out⟩
  have h := HO2.out
  rw [List.append_assoc] at h
  exact h
def CPutPost (l : List Int) (k ty n : Int) (x y : Nat) (s : ByteArray) (kind ver : Int) (w : World) (e : Ending) (w' : World) : Prop :=
  ∃ v', e = .returned (.tuple #[v', .int .i64 (errC k ty n x y s kind ver)]) ∧ (errC k ty n x y s kind ver = 0 → OB w' w.heap.size v' (l ++ putC k ty n x y s kind ver)) ∧ (errC k ty n x y s kind ver ≠ 0 → v' = .slice none 0 0) ∧ Ext w w'
theorem CPutPost.ok {l m : List Int} {k ty n : Int} {x y : Nat} {s : ByteArray} {kind ver : Int} {w w' : World} {v' : Value} (he : errC k ty n x y s kind ver = 0) (hm : putC k ty n x y s kind ver = m) (ho : OB w' w.heap.size v' (l ++ m)) (hE : Ext w w') :
    CPutPost l k ty n x y s kind ver w (.returned (.tuple #[v', .int .i64 0])) w' := by
  subst hm
  exact ⟨v', by rw [he], fun _ => ho, fun h => absurd he h, hE⟩
theorem CPutPost.bad {l : List Int} {k ty n : Int} {x y : Nat} {s : ByteArray} {kind ver : Int} {w w' : World} {E : Int} (he : errC k ty n x y s kind ver = E) (h0 : E ≠ 0) (hE : Ext w w') :
    CPutPost l k ty n x y s kind ver w (.returned (.tuple #[.slice none 0 0, .int .i64 E])) w' := by
  subst he
  exact ⟨_, rfl, fun h => absurd h h0, fun _ => rfl, hE⟩
theorem cput_same (v : Value) (l : List Int) (ty n : Int) (x y : Nat) (s : ByteArray) (kind ver : Int) (w : World) (hl : Sl w v 1 (l.map bcell)) (hlen : l.length ≤ 700000) (hs : s.size ≤ 9223372036854775807)
    (hv : ver = 1 ∨ ver = 2) (hr : rightC 1 ty n x y s kind = 0) :
    Calls Tryz.prog 252 #[v, .agg #[.int .u8 1, .int .u8 ty, .int .i64 n, .complex .f64 x y, .string s], .int .u8 kind, .int .u8 ver] w (CPutPost l 1 ty n x y s kind ver w) := by
  obtain ⟨i0, hi, hz0, hz1, hz2⟩ := info_parts Tryz.infoU8
  have HL := Hm hl
  have HR := Hm (fun w => cright_any 1 ty n x y s kind w (by decide) hs)
  rw [hr] at HR
  have HE := Hm (err_mk hv hr ne_one)
  have HP : Hid (putC 1 ty n x y s kind ver = [0]) := Hm (by unfold putC; rw [if_pos rfl])
  clear hl hr
  have hv1 : 1 ≤ ver := by omega
  have hv2 : ver ≤ 2 := by omega
  clear hv
  go_enter Tryz.func252, Tryz.ntmps252
  go_wp2_with (first
    | (go_at_call 297; refine (HR.out _).mono ?_; rintro e w1 ⟨rfl, hb1⟩; have hE1 : Ext w w1 := (by exact eX); have hE_w1 := hb1; obtain ⟨hc_w1, hf_w1⟩ := hE_w1.cells; have hz_w1 := hE_w1.size)
    | (go_at_call 196; refine (clone_any v l _ (HL.out.ext (by exact eX)) (by omega)).mono ?_; rintro e w2 ⟨v2, rfl, ho2, hb2⟩; have hE2 : Ext w w2 := (by exact eX); have hE_w2 := hE_w1.trans hb2; obtain ⟨hc_w2, hf_w2⟩ := hE_w2.cells; have hz_w2 := hE_w2.size; have HO2 := Hm (ho2.base (hE1.size)); have HB2 := Hm (ho2.base hz_w1); clear ho2 hc_w1 hf_w1)
    | (at_builtin; refine wpList_append_own _ rfl _ _ 27 rfl w.heap.size 5 i0 _ 1 1 Tryz.underlying27 hi hz0 hz1 hz2 rfl (by decide) _ _ _ rfl (HO2.out.alloc _) ⟨_, 0, none⟩ 1 1 (bs [0]) rfl rfl ?c1 ?c2 ?c3 ?c4 ?c5 ?_))
  case c1 => exact cells_one _ _
  case c2 => exact bs_one _
  case c3 => unfold maxLen; omega
  case c4 => omega
  case c5 => have := hE2.size; simp; omega
  intro v3 w3 hown hgrow _
  have hE3 := OB.grown (hE2.alloc _) (HO2.out.alloc _) hgrow
  have HO3 := Hm (OB.push hown (by simp))
  have HE3 := Hm hE3
  clear hown hgrow hE3
  go_wp2
  go_ret2
  exact CPutPost.ok HE.out HP.out HO3.out HE3.out
theorem cput_large (v : Value) (l : List Int) (ty n : Int) (x y : Nat) (s : ByteArray) (kind ver : Int) (w : World) (hl : Sl w v 1 (l.map bcell)) (hlen : l.length ≤ 700000) (hs : s.size ≤ 9223372036854775807)
    (hv : ver = 1 ∨ ver = 2) (hr : rightC 2 ty n x y s kind = 0) (hL : largeB 2 ty s = true) :
    Calls Tryz.prog 252 #[v, .agg #[.int .u8 2, .int .u8 ty, .int .i64 n, .complex .f64 x y, .string s], .int .u8 kind, .int .u8 ver] w (CPutPost l 2 ty n x y s kind ver w) := by
  have HL := Hm hl
  have HR := Hm (fun w => cright_any 2 ty n x y s kind w (by decide) hs)
  rw [hr] at HR
  have HE := Hm (err_mk hv hr ne_two)
  have HP := Hm (putC_large (n := n) (x := x) (y := y) (kind := kind) (ver := ver) hL)
  have HLA := Hm (fun w => clarge_any 2 ty n x y s w)
  rw [hL] at HLA
  clear hl hr hL
  rcases hv with rfl | rfl
  · go_enter Tryz.func252, Tryz.ntmps252
    go_wp2_with (first
      | (go_at_call 297; refine (HR.out _).mono ?_; rintro e w1 ⟨rfl, hb1⟩; have hE1 : Ext w w1 := (by exact eX); have hE_w1 := hb1; obtain ⟨hc_w1, hf_w1⟩ := hE_w1.cells; have hz_w1 := hE_w1.size)
      | (go_at_call 196; refine (clone_any v l _ (HL.out.ext (by exact eX)) (by omega)).mono ?_; rintro e w2 ⟨v2, rfl, ho2, hb2⟩; have hE2 : Ext w w2 := (by exact eX); have hE_w2 := hE_w1.trans hb2; obtain ⟨hc_w2, hf_w2⟩ := hE_w2.cells; have hz_w2 := hE_w2.size; have HO2 := Hm (ho2.base (hE1.size)); have HB2 := Hm (ho2.base hz_w1); clear ho2 hc_w1 hf_w1)
      | (go_at_call 248; refine (HLA.out _).mono ?_; rintro e w3 ⟨rfl, hb3⟩; have hE_w3 := hE_w2.trans hb3; have hE3 : Ext w2 w3 := hb3; obtain ⟨hc_w3, hf_w3⟩ := hE_w3.cells; have hz_w3 := hE_w3.size; clear hc_w2 hf_w2)
      | (go_at_call 248; refine (HLA.out _).mono ?_; rintro e w4 ⟨rfl, hb4⟩; have hE_w4 := hE_w3.trans hb4; have hE4 : Ext w2 w4 := hE3.trans hb4; obtain ⟨hc_w4, hf_w4⟩ := hE_w4.cells; have hz_w4 := hE_w4.size; clear hc_w3 hf_w3)
      | (go_at_call 300; refine (clong_any v2 l 2 2 ty n x y s _ (HO2.out.sl.ext (by exact eX)) (by omega) (by decide) hs).mono ?_; rintro e w5 ⟨v4, rfl, ho4, hb5⟩; have HO4 := Hm (ho4.base (Ext.size (by exact eX : Ext w _))); have HE4 : Hid (Ext w w5) := Hm (by exact eX); clear ho4 hb5))
    go_ret2
    exact CPutPost.ok HE.out HP.out HO4.out HE4.out
  · go_enter Tryz.func252, Tryz.ntmps252
    go_wp2_with (first
      | (go_at_call 297; refine (HR.out _).mono ?_; rintro e w1 ⟨rfl, hb1⟩; have hE1 : Ext w w1 := (by exact eX); have hE_w1 := hb1; obtain ⟨hc_w1, hf_w1⟩ := hE_w1.cells; have hz_w1 := hE_w1.size)
      | (go_at_call 196; refine (clone_any v l _ (HL.out.ext (by exact eX)) (by omega)).mono ?_; rintro e w2 ⟨v2, rfl, ho2, hb2⟩; have hE2 : Ext w w2 := (by exact eX); have hE_w2 := hE_w1.trans hb2; obtain ⟨hc_w2, hf_w2⟩ := hE_w2.cells; have hz_w2 := hE_w2.size; have HO2 := Hm (ho2.base (hE1.size)); have HB2 := Hm (ho2.base hz_w1); clear ho2 hc_w1 hf_w1)
      | (go_at_call 248; refine (HLA.out _).mono ?_; rintro e w3 ⟨rfl, hb3⟩; have hE_w3 := hE_w2.trans hb3; have hE3 : Ext w2 w3 := hb3; obtain ⟨hc_w3, hf_w3⟩ := hE_w3.cells; have hz_w3 := hE_w3.size; clear hc_w2 hf_w2)
      | (go_at_call 300; refine (clong_any v2 l 1 2 ty n x y s _ (HO2.out.sl.ext (by exact eX)) (by omega) (by decide) hs).mono ?_; rintro e w5 ⟨v4, rfl, ho4, hb5⟩; have HO4 := Hm (ho4.base (Ext.size (by exact eX : Ext w _))); have HE4 : Hid (Ext w w5) := Hm (by exact eX); clear ho4 hb5))
    go_ret2
    exact CPutPost.ok HE.out HP.out HO4.out HE4.out
theorem cput_text (v : Value) (l : List Int) (ty n : Int) (x y : Nat) (s : ByteArray) (kind : Int) (w : World) (hl : Sl w v 1 (l.map bcell)) (hlen : l.length ≤ 700000) (hs : s.size ≤ 9223372036854775807)
    (hr : rightC 2 ty n x y s kind = 0) (hL : largeB 2 ty s = false) (hk : kind = 5 ∨ kind = 6) :
    Calls Tryz.prog 252 #[v, .agg #[.int .u8 2, .int .u8 ty, .int .i64 n, .complex .f64 x y, .string s], .int .u8 kind, .int .u8 2] w (CPutPost l 2 ty n x y s kind 2 w) := by
  have HL := Hm hl
  have HR := Hm (fun w => cright_any 2 ty n x y s kind w (by decide) hs)
  rw [hr] at HR
  have HE := Hm (err_mk (.inr rfl) hr ne_two)
  have HP : Hid (putC 2 ty n x y s kind 2 = sevens (s.size + 2) ++ strL s) := Hm (by rw [putC_small hL, if_pos rfl, if_pos hk])
  have HLA := Hm (fun w => clarge_any 2 ty n x y s w)
  rw [hL] at HLA
  have HX := Hm (fun w => texty_yes kind w hk)
  have hs2 : s.size ≤ 2048 := (right_zero (right_full hr).1).2.2.1
  have hw : IntKind.u64.wrap ((s.size : Int) + 2) = ((s.size + 2 : Nat) : Int) := by rw [u64_wrap]; omega
  have hw2 : IntKind.i64.wrap ((s.size : Int) + 2) = (s.size : Int) + 2 := by rw [i64_wrap]; omega
  have HS10 := Hm (sevens_len10 (x := s.size + 2) (by omega))
  clear hl hr hL hk
  go_enter Tryz.func252, Tryz.ntmps252
  go_upto_region 17 with (first
    | (go_at_call 297; refine (HR.out _).mono ?_; rintro e w1 ⟨rfl, hb1⟩; have hE1 : Ext w w1 := (by exact eX); have hE_w1 := hb1; obtain ⟨hc_w1, hf_w1⟩ := hE_w1.cells; have hz_w1 := hE_w1.size)
    | (go_at_call 196; refine (clone_any v l _ (HL.out.ext (by exact eX)) (by omega)).mono ?_; rintro e w2 ⟨v2, rfl, ho2, hb2⟩; have hE2 : Ext w w2 := (by exact eX); have hE_w2 := hE_w1.trans hb2; obtain ⟨hc_w2, hf_w2⟩ := hE_w2.cells; have hz_w2 := hE_w2.size; have HO2 := Hm (ho2.base (hE1.size)); have HB2 := Hm (ho2.base hz_w1); clear ho2 hc_w1 hf_w1)
    | (go_at_call 248; refine (HLA.out _).mono ?_; rintro e w3 ⟨rfl, hb3⟩; have hE_w3 := hE_w2.trans hb3; have hE3 : Ext w2 w3 := hb3; obtain ⟨hc_w3, hf_w3⟩ := hE_w3.cells; have hz_w3 := hE_w3.size; clear hc_w2 hf_w2)
    | (go_at_call 248; refine (HLA.out _).mono ?_; rintro e w4 ⟨rfl, hb4⟩; have hE_w4 := hE_w3.trans hb4; have hE4 : Ext w2 w4 := hE3.trans hb4; obtain ⟨hc_w4, hf_w4⟩ := hE_w4.cells; have hz_w4 := hE_w4.size; clear hc_w3 hf_w3)
    | (go_at_call 296; refine (HX.out _).mono ?_; rintro e w9 ⟨rfl, rfl⟩))
  have hEw4 : Ext w w4 := hE2.trans hE4
  have HS : Hid (∀ w', Ext w4 w' → Ext w4 w' ∧ w'.cell? ⟨w.heap.size, 4, none⟩ = some (.string s)) := Hm (fun w' h => ⟨h, by rw [(hE_w4.trans h).cells.1 _ _ (by simp), (Blk.new w #[.int .u8 2, .int .u8 ty, .int .i64 n, .complex .f64 x y, .string s] 226).cell 4]; rfl⟩)
  have HEw4 := Hm hEw4
  have HE24 := Hm hE4
  clear hEw4 hE1 hE2 hE3 hE4 hE_w1 hE_w2 hE_w3 hE_w4 hc_w4 hf_w4 hb1 hb2 hb3 hb4
  go_region_held3 (fun w' => Ext w4 w' ∧ w'.cell? ⟨w.heap.size, 4, none⟩ = some (.string s)) (exact HS.out _ (by exact eX))
    (first
      | (refine step_app_str (by rfl) _ _ (by rfl) w.heap.size _ _ (by rfl) HO4.out s (by rfl) (by have := HS10.out; simp; omega) HE4.out.size ?_; intro v5 w6 ho5 hgrow; have hE5 : Ext w w6 := OB.grown HE4.out HO4.out hgrow; have hb6' : Ext w4 w6 := OB.grown hb4' HOB4.out hgrow; have HO5 := Hm ho5; have HE5 := Hm hE5; clear ho5 hgrow hE5)
      | (go_at_call 192; refine (putUint_any v2 l (s.size + 2) _ (HO2.out.sl.ext (HE24.out.trans (by exact eX))) (by omega) (by omega)).mono ?_; rintro e w5 ⟨v4, rfl, ho4, hb5⟩; have hb4' : Ext w4 w5 := (by exact eX); have HE4 := Hm (HEw4.out.trans hb4'); have HO4 := Hm (ho4.base (Ext.size (HEw4.out.trans (by exact eX : Ext w4 _)))); have HOB4 := Hm (ho4.base (Ext.size (by exact eX : Ext w4 _))); clear ho4))
  go_wp2
  go_ret2
  exact CPutPost.ok HE.out HP.out (by have := HO5.out; rw [List.append_assoc] at this; exact this) HE5.out
theorem cput_two (v : Value) (l : List Int) (ty n : Int) (x y : Nat) (s : ByteArray) (kind : Int) (w : World) (hl : Sl w v 1 (l.map bcell)) (hlen : l.length ≤ 700000) (hs : s.size ≤ 9223372036854775807)
    (hn : -9223372036854775808 ≤ n ∧ n < 9223372036854775808) (hx : x < 2 ^ 64) (hy : y < 2 ^ 64)
    (hr : rightC 2 ty n x y s kind = 0) (hL : largeB 2 ty s = false) (hk : kind ≠ 5 ∧ kind ≠ 6) :
    Calls Tryz.prog 252 #[v, .agg #[.int .u8 2, .int .u8 ty, .int .i64 n, .complex .f64 x y, .string s], .int .u8 kind, .int .u8 2] w (CPutPost l 2 ty n x y s kind 2 w) := by
  have HL := Hm hl
  have HR := Hm (fun w => cright_any 2 ty n x y s kind w (by decide) hs)
  rw [hr] at HR
  have HE := Hm (err_mk (.inr rfl) hr ne_two)
  have HP : Hid (putC 2 ty n x y s kind 2 = putL ty n x y s 2) := Hm (by rw [putC_small hL, if_pos rfl, if_neg (by omega)])
  have HLA := Hm (fun w => clarge_any 2 ty n x y s w)
  rw [hL] at HLA
  have HX := Hm (fun w => texty_no kind w hk)
  have eV : errV ty n x y s 2 = 0 := by unfold errV; rw [if_pos (.inr rfl)]; exact (right_full hr).1
  have HVP := Hm (fun (v : Value) (l : List Int) (w : World) (hl : Sl w v 1 (l.map bcell)) (hlen : l.length ≤ 800000) => vput_ok v l ty n x y s 2 w eV hl hlen hn hx hy hs)
  clear hl hr hL hk hn hx hy eV
  go_enter Tryz.func252, Tryz.ntmps252
  go_wp2_with (first
    | (go_at_call 297; refine (HR.out _).mono ?_; rintro e w1 ⟨rfl, hb1⟩; have hE1 : Ext w w1 := (by exact eX); have hE_w1 := hb1; obtain ⟨hc_w1, hf_w1⟩ := hE_w1.cells; have hz_w1 := hE_w1.size)
    | (go_at_call 196; refine (clone_any v l _ (HL.out.ext (by exact eX)) (by omega)).mono ?_; rintro e w2 ⟨v2, rfl, ho2, hb2⟩; have hE2 : Ext w w2 := (by exact eX); have hE_w2 := hE_w1.trans hb2; obtain ⟨hc_w2, hf_w2⟩ := hE_w2.cells; have hz_w2 := hE_w2.size; have HO2 := Hm (ho2.base (hE1.size)); have HB2 := Hm (ho2.base hz_w1); clear ho2 hc_w1 hf_w1)
    | (go_at_call 248; refine (HLA.out _).mono ?_; rintro e w3 ⟨rfl, hb3⟩; have hE_w3 := hE_w2.trans hb3; have hE3 : Ext w2 w3 := hb3; obtain ⟨hc_w3, hf_w3⟩ := hE_w3.cells; have hz_w3 := hE_w3.size; clear hc_w2 hf_w2)
    | (go_at_call 248; refine (HLA.out _).mono ?_; rintro e w4 ⟨rfl, hb4⟩; have hE_w4 := hE_w3.trans hb4; have hE4 : Ext w2 w4 := hE3.trans hb4; obtain ⟨hc_w4, hf_w4⟩ := hE_w4.cells; have hz_w4 := hE_w4.size; clear hc_w3 hf_w3)
    | (go_at_call 296; refine (HX.out _).mono ?_; rintro e w9 ⟨rfl, rfl⟩)
    | (go_at_call 301; refine (HVP.out v2 l _ (HO2.out.sl.ext (by exact eX)) (by omega)).mono ?_; rintro e w5 ⟨v4, rfl, ho4, hb5⟩; have HO4 := Hm (ho4.base (Ext.size (by exact eX : Ext w _))); have HE4 : Hid (Ext w w5) := Hm (by exact eX); clear ho4 hb5))
  go_ret2
  exact CPutPost.ok HE.out HP.out HO4.out HE4.out
theorem cput_one (v : Value) (l : List Int) (ty n : Int) (x y : Nat) (s : ByteArray) (kind : Int) (w : World) (hl : Sl w v 1 (l.map bcell)) (hlen : l.length ≤ 700000) (hs : s.size ≤ 9223372036854775807)
    (hn : -9223372036854775808 ≤ n ∧ n < 9223372036854775808) (hx : x < 2 ^ 64) (hy : y < 2 ^ 64)
    (hr : rightC 2 ty n x y s kind = 0) (hL : largeB 2 ty s = false) :
    Calls Tryz.prog 252 #[v, .agg #[.int .u8 2, .int .u8 ty, .int .i64 n, .complex .f64 x y, .string s], .int .u8 kind, .int .u8 1] w (CPutPost l 2 ty n x y s kind 1 w) := by
  obtain ⟨i0, hi, hz0, hz1, hz2⟩ := info_parts Tryz.infoU8
  have HL := Hm hl
  have HR := Hm (fun w => cright_any 2 ty n x y s kind w (by decide) hs)
  rw [hr] at HR
  have HE := Hm (err_mk (.inl rfl) hr ne_two)
  have HP : Hid (putC 2 ty n x y s kind 1 = 1 :: putL ty n x y s 1) := Hm (by rw [putC_small hL, if_neg (by decide)])
  have HLA := Hm (fun w => clarge_any 2 ty n x y s w)
  rw [hL] at HLA
  have eV : errV ty n x y s 1 = 0 := by unfold errV; rw [if_pos (.inl rfl)]; exact (right_full hr).1
  have HVP := Hm (fun (v : Value) (l : List Int) (w : World) (hl : Sl w v 1 (l.map bcell)) (hlen : l.length ≤ 800000) => vput_ok v l ty n x y s 1 w eV hl hlen hn hx hy hs)
  clear hl hr hL hn hx hy eV
  go_enter Tryz.func252, Tryz.ntmps252
  go_wp2_with (first
    | (go_at_call 297; refine (HR.out _).mono ?_; rintro e w1 ⟨rfl, hb1⟩; have hE1 : Ext w w1 := (by exact eX); have hE_w1 := hb1; obtain ⟨hc_w1, hf_w1⟩ := hE_w1.cells; have hz_w1 := hE_w1.size)
    | (go_at_call 196; refine (clone_any v l _ (HL.out.ext (by exact eX)) (by omega)).mono ?_; rintro e w2 ⟨v2, rfl, ho2, hb2⟩; have hE2 : Ext w w2 := (by exact eX); have hE_w2 := hE_w1.trans hb2; obtain ⟨hc_w2, hf_w2⟩ := hE_w2.cells; have hz_w2 := hE_w2.size; have HO2 := Hm (ho2.base (hE1.size)); have HB2 := Hm (ho2.base hz_w1); clear ho2 hc_w1 hf_w1)
    | (go_at_call 248; refine (HLA.out _).mono ?_; rintro e w3 ⟨rfl, hb3⟩; have hE_w3 := hE_w2.trans hb3; have hE3 : Ext w2 w3 := hb3; obtain ⟨hc_w3, hf_w3⟩ := hE_w3.cells; have hz_w3 := hE_w3.size; clear hc_w2 hf_w2)
    | (go_at_call 248; refine (HLA.out _).mono ?_; rintro e w4 ⟨rfl, hb4⟩; have hE_w4 := hE_w3.trans hb4; have hE4 : Ext w2 w4 := hE3.trans hb4; obtain ⟨hc_w4, hf_w4⟩ := hE_w4.cells; have hz_w4 := hE_w4.size; clear hc_w3 hf_w3)
    | (at_builtin; refine wpList_append_own _ rfl _ _ 27 rfl _ 5 i0 _ 1 1 Tryz.underlying27 hi hz0 hz1 hz2 rfl (by decide) _ _ _ rfl ((HB2.out.ext hE4).alloc _) ⟨_, 0, none⟩ 1 1 (bs [1]) rfl rfl ?c1 ?c2 ?c3 ?c4 ?c5 ?_))
  case c1 => exact cells_one _ _
  case c2 => exact bs_one _
  case c3 => unfold maxLen; omega
  case c4 => omega
  case c5 => have := hz_w4; simp at this ⊢; omega
  intro v5 w5 hown hgrow _
  have hE_w5 := OB.grown (hE_w4.alloc _) ((HB2.out.ext hE4).alloc _) hgrow
  obtain ⟨hc_w5, hf_w5⟩ := hE_w5.cells
  have hz_w5 := hE_w5.size
  have hE5 : Ext w w5 := by exact eX
  have HO5 := Hm ((OB.push (l := l) (m := [1]) hown (by simp)).base (show w.heap.size ≤ _ by simp))
  clear hown hgrow hc_w4 hf_w4
  go_wp2_with (go_at_call 301; refine (HVP.out v5 (l ++ [1]) _ (HO5.out.sl.ext (by exact eX)) (by simp; omega)).mono ?_; rintro e w6 ⟨v4, rfl, ho4, hb6⟩; have HO4 := Hm (ho4.base (Ext.size (by exact eX : Ext w _))); have HE4 : Hid (Ext w w6) := Hm (by exact eX); clear ho4 hb6)
  go_ret2
  exact CPutPost.ok HE.out HP.out (by have := HO4.out; rw [List.append_assoc] at this; exact this) HE4.out
theorem rightC_k {k ty n x y : Int} {s : ByteArray} {kind : Int} (h : rightC k ty n x y s kind = 0) : k ≤ 2 := by
  unfold rightC at h
  (repeat' split at h) <;> first | omega | (exfalso; omega)
theorem cput_null (v : Value) (l : List Int) (ty n : Int) (x y : Nat) (s : ByteArray) (kind ver : Int) (w : World) (hl : Sl w v 1 (l.map bcell)) (hlen : l.length ≤ 700000) (hs : s.size ≤ 9223372036854775807)
    (hv : ver = 1 ∨ ver = 2) (hr : rightC 0 ty n x y s kind = 0) :
    Calls Tryz.prog 252 #[v, .agg #[.int .u8 0, .int .u8 ty, .int .i64 n, .complex .f64 x y, .string s], .int .u8 kind, .int .u8 ver] w (CPutPost l 0 ty n x y s kind ver w) := by
  have HL := Hm hl
  have HR := Hm (fun w => cright_any 0 ty n x y s kind w (by decide) hs)
  rw [hr] at HR
  have HE : Hid (errC 0 ty n x y s kind ver = 12) := Hm (by unfold errC; rw [if_pos hv, if_neg (by simpa using hr), if_pos rfl])
  clear hl hr
  have hv1 : 1 ≤ ver := by omega
  have hv2 : ver ≤ 2 := by omega
  clear hv
  go_enter Tryz.func252, Tryz.ntmps252
  go_wp2_with (first
    | (go_at_call 297; refine (HR.out _).mono ?_; rintro e w1 ⟨rfl, hb1⟩; have hE1 : Ext w w1 := (by exact eX); have hE_w1 := hb1; obtain ⟨hc_w1, hf_w1⟩ := hE_w1.cells; have hz_w1 := hE_w1.size)
    | (go_at_call 196; refine (clone_any v l _ (HL.out.ext (by exact eX)) (by omega)).mono ?_; rintro e w2 ⟨v2, rfl, ho2, hb2⟩; have hE2 : Ext w w2 := (by exact eX); have hE_w2 := hE_w1.trans hb2; obtain ⟨hc_w2, hf_w2⟩ := hE_w2.cells; have hz_w2 := hE_w2.size; have HO2 := Hm (ho2.base (hE1.size)); have HB2 := Hm (ho2.base hz_w1); clear ho2 hc_w1 hf_w1))
  go_ret2
  exact CPutPost.bad HE.out (by decide) hE2
theorem cput_wrong (v : Value) (l : List Int) (k ty n : Int) (x y : Nat) (s : ByteArray) (kind ver : Int) (w : World) (hs : s.size ≤ 9223372036854775807) (hk0 : 0 ≤ k)
    (hr : rightC k ty n x y s kind ≠ 0 ∨ ¬ (ver = 1 ∨ ver = 2)) :
    Calls Tryz.prog 252 #[v, .agg #[.int .u8 k, .int .u8 ty, .int .i64 n, .complex .f64 x y, .string s], .int .u8 kind, .int .u8 ver] w (CPutPost l k ty n x y s kind ver w) := by
  by_cases hv : ver = 1 ∨ ver = 2
  · have hr0 : rightC k ty n x y s kind ≠ 0 := hr.resolve_right (fun h => h hv)
    have HR := Hm (fun w => cright_any k ty n x y s kind w hk0 hs)
    have HE : Hid (errC k ty n x y s kind ver = rightC k ty n x y s kind) := Hm (by unfold errC; rw [if_pos hv, if_pos hr0])
    generalize rightC k ty n x y s kind = R at *
    have hR2 : (R != 0) = true := by simpa using hr0
    have HR0 := Hm hr0
    clear hr0 hr
    have hv1 : 1 ≤ ver := by omega
    have hv2 : ver ≤ 2 := by omega
    clear hv
    go_enter Tryz.func252, Tryz.ntmps252
    go_wp2_with (go_at_call 297; refine (HR.out _).mono ?_; rintro e w1 ⟨rfl, hb1⟩; have hE1 : Ext w w1 := (by exact eX); have hE_w1 := hb1; obtain ⟨hc_w1, hf_w1⟩ := hE_w1.cells; have hz_w1 := hE_w1.size)
    go_ret2
    exact CPutPost.bad HE.out HR0.out hE1
  · have HE : Hid (errC k ty n x y s kind ver = 18) := Hm (by unfold errC; rw [if_neg hv])
    clear hr
    by_cases h1 : ver < 1
    · clear hv
      go_enter Tryz.func252, Tryz.ntmps252
      go_wp2
      go_ret2
      exact CPutPost.bad HE.out (by decide) (by exact eX)
    · have h2 : 2 < ver := by omega
      clear hv
      go_enter Tryz.func252, Tryz.ntmps252
      go_wp2
      go_ret2
      exact CPutPost.bad HE.out (by decide) (by exact eX)
theorem cput_any (v : Value) (l : List Int) (k ty n : Int) (x y : Nat) (s : ByteArray) (kind ver : Int) (w : World) (hl : Sl w v 1 (l.map bcell)) (hlen : l.length ≤ 700000) (hk0 : 0 ≤ k)
    (hn : -9223372036854775808 ≤ n ∧ n < 9223372036854775808) (hx : x < 2 ^ 64) (hy : y < 2 ^ 64) (hs : s.size ≤ 9223372036854775807) :
    Calls Tryz.prog 252 #[v, .agg #[.int .u8 k, .int .u8 ty, .int .i64 n, .complex .f64 x y, .string s], .int .u8 kind, .int .u8 ver] w (CPutPost l k ty n x y s kind ver w) := by
  by_cases hr : rightC k ty n x y s kind = 0
  · by_cases hv : ver = 1 ∨ ver = 2
    · have hk2 := rightC_k hr
      have hk : k = 0 ∨ k = 1 ∨ k = 2 := by omega
      rcases hk with rfl | rfl | rfl
      · exact cput_null v l ty n x y s kind ver w hl hlen hs hv hr
      · exact cput_same v l ty n x y s kind ver w hl hlen hs hv hr
      · cases hL : largeB 2 ty s with
        | true => exact cput_large v l ty n x y s kind ver w hl hlen hs hv hr hL
        | false =>
          rcases hv with rfl | rfl
          · exact cput_one v l ty n x y s kind w hl hlen hs hn hx hy hr hL
          · by_cases hk : kind = 5 ∨ kind = 6
            · exact cput_text v l ty n x y s kind w hl hlen hs hr hL hk
            · exact cput_two v l ty n x y s kind w hl hlen hs hn hx hy hr hL (by omega)
    · exact cput_wrong v l k ty n x y s kind ver w hs hk0 (.inr hv)
  · exact cput_wrong v l k ty n x y s kind ver w hs hk0 (.inl hr)
theorem cput_ok (v : Value) (l : List Int) (k ty n : Int) (x y : Nat) (s : ByteArray) (kind ver : Int) (w : World) (h : errC k ty n x y s kind ver = 0) (hl : Sl w v 1 (l.map bcell)) (hlen : l.length ≤ 700000) (hk0 : 0 ≤ k)
    (hn : -9223372036854775808 ≤ n ∧ n < 9223372036854775808) (hx : x < 2 ^ 64) (hy : y < 2 ^ 64) (hs : s.size ≤ 9223372036854775807) :
    Calls Tryz.prog 252 #[v, .agg #[.int .u8 k, .int .u8 ty, .int .i64 n, .complex .f64 x y, .string s], .int .u8 kind, .int .u8 ver] w fun e w' => ∃ v', e = .returned (.tuple #[v', .int .i64 0]) ∧ OB w' w.heap.size v' (l ++ putC k ty n x y s kind ver) ∧ Ext w w' := by
  refine (cput_any v l k ty n x y s kind ver w hl hlen hk0 hn hx hy hs).mono ?_
  rintro e w' ⟨v', rfl, h1, h2, h3⟩
  exact ⟨v', by rw [h], h1 h, h3⟩
theorem putC_len2 {k ty n : Int} {x y : Nat} {s : ByteArray} {kind ver : Int} (hk0 : 0 ≤ k) (h : errC k ty n x y s kind ver = 0) (hn : -9223372036854775808 ≤ n ∧ n < 9223372036854775808) : (putC k ty n x y s kind ver).length ≤ 4000 := by
  obtain ⟨hv, hr, hk, hkd⟩ := errC_zero hk0 h
  rcases hk with rfl | rfl
  · unfold putC; rw [if_pos rfl]; simp
  · have h3 := (right_full hr).1
    have hs := (right_zero h3).2.2.1
    have e1 : errV ty n x y s 1 = 0 := by unfold errV; rw [if_pos (.inl rfl)]; exact h3
    have e2 : errV ty n x y s 2 = 0 := by unfold errV; rw [if_pos (.inr rfl)]; exact h3
    have l1 := putL_len e1 hn
    have l2 := putL_len e2 hn
    have l3 := sevens_len10 (x := s.size) (by omega)
    have l4 := sevens_len10 (x := s.size + 2) (by omega)
    have l5 := strL_len s
    unfold putC
    (repeat' split) <;> (try simp only [List.length_append, List.length_cons, List.length_nil]) <;> omega
def byByte (st : RS) : Nat → List Int × RS
  | 0 => ([], st)
  | k + 1 => ((byByte st k).1 ++ [(byteR (byByte st k).2).1], (byteR (byByte st k).2).2)
theorem byByte_len (st : RS) : ∀ k, (byByte st k).1.length = k
  | 0 => rfl
  | k + 1 => by unfold byByte; simp [byByte_len st k]
theorem byByte_gave {e : Int} (he : e ≠ 0) : ∀ k, byByte ⟨[], e⟩ k = (List.replicate k 0, ⟨[], e⟩)
  | 0 => rfl
  | k + 1 => by unfold byByte; rw [byByte_gave he k, byteR_gave he, List.replicate_succ']
theorem byByte_ok {st : RS} (h : st.ok) : ∀ k, (byByte st k).2.ok
  | 0 => h
  | k + 1 => byteR_ok (byByte_ok h k)
theorem byByte_isB {st : RS} (h : st.ok) : ∀ k, isB (byByte st k).1
  | 0 => isB.nil
  | k + 1 => by
    unfold byByte
    refine (byByte_isB h k).append ?_
    intro x hx
    obtain rfl : x = _ := by simpa using hx
    unfold byteR
    simp only
    have := bytesR_isB (byByte_ok h k) 1
    cases hq : (bytesR 1 (byByte st k).2).1 with
    | nil => simp
    | cons a l => rw [hq] at this; exact this.head
theorem byByte_has (st : RS) : ∀ k, k ≤ st.l.length → byByte st k = (st.l.take k, ⟨st.l.drop k, st.e⟩)
  | 0, _ => by simp [byByte]
  | k + 1, h => by
    unfold byByte
    rw [byByte_has st k (by omega)]
    unfold byteR bytesR
    simp only
    rw [if_neg (by simp; omega)]
    have hk : k < st.l.length := by omega
    rw [List.drop_eq_getElem_cons hk]
    simp only [List.take_succ_cons, List.take_zero, List.headD_cons, List.drop_succ_cons, List.drop_zero]
    rw [List.take_succ_eq_append_getElem hk]
def tkUp (nulls : List Bool) (cols : List Col) (ver : Int) (st : RS) : Nat → (List K × List Ho) × RS
  | 0 => (([], []), st)
  | k + 1 =>
    if h : k < nulls.length ∧ k < cols.length then
      (if nulls[k]'h.1 = true then (((tkUp nulls cols ver st k).1.1 ++ [K.zero], (tkUp nulls cols ver st k).1.2), (tkUp nulls cols ver st k).2)
       else (((tkUp nulls cols ver st k).1.1 ++ [(takeC (cols[k]'h.2).ty ver (tkUp nulls cols ver st k).2).1.1],
              (if 0 < (takeC (cols[k]'h.2).ty ver (tkUp nulls cols ver st k).2).1.2 then (tkUp nulls cols ver st k).1.2 ++ [⟨k, ((takeC (cols[k]'h.2).ty ver (tkUp nulls cols ver st k).2).1.2 : Nat)⟩] else (tkUp nulls cols ver st k).1.2)),
             (takeC (cols[k]'h.2).ty ver (tkUp nulls cols ver st k).2).2))
    else tkUp nulls cols ver st k
theorem tkUp_null {nulls : List Bool} {cols : List Col} {ver : Int} {st : RS} {k : Nat} (h1 : k < nulls.length) (h2 : k < cols.length) (h : nulls[k] = true) :
    tkUp nulls cols ver st (k + 1) = (((tkUp nulls cols ver st k).1.1 ++ [K.zero], (tkUp nulls cols ver st k).1.2), (tkUp nulls cols ver st k).2) := by
  conv => lhs; unfold tkUp
  rw [dif_pos ⟨h1, h2⟩, if_pos h]
theorem tkUp_cell {nulls : List Bool} {cols : List Col} {ver : Int} {st : RS} {k : Nat} (h1 : k < nulls.length) (h2 : k < cols.length) (h : nulls[k] = false) {c : K} {m : Nat} {S : RS} (ht : takeC cols[k].ty ver (tkUp nulls cols ver st k).2 = ((c, m), S)) :
    tkUp nulls cols ver st (k + 1) = (((tkUp nulls cols ver st k).1.1 ++ [c], if 0 < m then (tkUp nulls cols ver st k).1.2 ++ [⟨k, (m : Nat)⟩] else (tkUp nulls cols ver st k).1.2), S) := by
  conv => lhs; unfold tkUp
  rw [dif_pos ⟨h1, h2⟩, if_neg (by rw [h]; simp), ht]
theorem tkUp_len {nulls : List Bool} {cols : List Col} {ver : Int} {st : RS} : ∀ k, k ≤ nulls.length → k ≤ cols.length → (tkUp nulls cols ver st k).1.1.length = k
  | 0, _, _ => rfl
  | k + 1, h1, h2 => by
    have ih := tkUp_len (nulls := nulls) (cols := cols) (ver := ver) (st := st) k (by omega) (by omega)
    unfold tkUp
    rw [dif_pos ⟨by omega, by omega⟩]
    split <;> simp [ih]
theorem tkUp_holes {nulls : List Bool} {cols : List Col} {ver : Int} {st : RS} : ∀ k, (tkUp nulls cols ver st k).1.2.length ≤ k
  | 0 => Nat.le_refl _
  | k + 1 => by
    have ih := tkUp_holes (nulls := nulls) (cols := cols) (ver := ver) (st := st) k
    unfold tkUp
    split
    · split
      · simp only; omega
      · simp only
        split
        · simp only [List.length_append, List.length_cons, List.length_nil]; omega
        · omega
    · omega
def begR (r : Rl) (ver : Int) (st : RS) : RS := if ver = 1 ∨ ver = 2 then failS st r.right else giveS (failS st r.right) 18
def finT (t : (List K × List Ho) × RS) : (List K × List Ho) × RS := if t.2.e ≠ 0 then (([], []), t.2) else t
def takeT (r : Rl) (ver : Int) (st : RS) : (List K × List Ho) × RS :=
  if (begR r ver st).e ≠ 0 then (([], []), begR r ver st)
  else if (bytesR (mapSize r.cols.length) (begR r ver st)).2.e ≠ 0 then (([], []), (bytesR (mapSize r.cols.length) (begR r ver st)).2)
  else finT (tkUp (unmapL (bytesR (mapSize r.cols.length) (begR r ver st)).1 r.cols.length).1 r.cols ver (failS (bytesR (mapSize r.cols.length) (begR r ver st)).2 (unmapL (bytesR (mapSize r.cols.length) (begR r ver st)).1 r.cols.length).2) (unmapL (bytesR (mapSize r.cols.length) (begR r ver st)).1 r.cols.length).1.length)
theorem wordR_lt {st : RS} (h : st.ok) : (wordR st).1 < 2 ^ 64 := ofBytes_lt64 (bytesR_isB h 8) (by unfold bytesR; split <;> simp <;> omega)
theorem vtf_any (g d : Nat) (st : RS) (ver : Int) (w : World) (h : RD w g d st) :
    Calls Tryz.prog 336 #[.pointer (some ⟨g, 0, none⟩), .int .u8 ver] w (RPost g d w (.int .u64 (floatR ver st).1) (floatR ver st).2) := by
  have H := Hm h
  by_cases h1 : ver = 1
  · have HW := Hm (fun w h => rword2_any g d st w h)
    subst h1
    unfold floatR
    rw [if_pos rfl]
    clear h
    go_enter Tryz.func336, Tryz.ntmps336
    go_wp2_with (go_at_call 334; refine (HW.out _ H.out).mono ?_; rintro e w1 ⟨rfl, hr, ht⟩; have HR := Hm hr; have HT := Hm ht; clear hr ht)
    go_ret
    exact ⟨rfl, HR.out, HT.out⟩
  · have HU := Hm (fun w h => ruint2_any g d st 18446744073709551615 w h (by omega))
    have hle := uintR_le (st := st) 18446744073709551615
    unfold floatR
    rw [if_neg h1]
    simp only
    generalize uintR 18446744073709551615 st = U at *
    obtain ⟨n, st1⟩ := U
    simp only at *
    have HL : Hid (n < 2 ^ 64) := Hm (by omega)
    clear h
    go_enter Tryz.func336, Tryz.ntmps336
    go_wp2_with (first
      | (go_at_call 198; refine (HU.out _ H.out).mono ?_; rintro e w1 ⟨rfl, hr, ht⟩; have HR := Hm hr; have HT := Hm ht; clear hr ht)
      | (go_at_call 349; refine (rev_any n _ HL.out).mono ?_; rintro e w2 ⟨rfl, rfl⟩))
    go_ret
    exact ⟨rfl, HR.out, HT.out⟩
theorem floatR_ne {ver : Int} (h : ver ≠ 1) (st : RS) : floatR ver st = floatR 2 st := by unfold floatR; rw [if_neg h, if_neg (by decide)]
theorem Tch.trans' {g : Nat} {a b c : World} (h : Tch g a b) (k : Below a.heap.size b c) : Tch g a c :=
  ⟨k.os.trans h.os, k.tape.trans h.tape, k.output.trans h.output, Nat.le_trans h.size k.size, fun i hi hg => (k.block i hi).trans (h.block i hi hg)⟩
theorem Tch.setNew {g h : Nat} {w w' : World} (ht : Tch g w w') (hh : w.heap.size ≤ h) (i : Nat) (v : Value) : Tch g w (w'.setCell ⟨h, i, none⟩ v) :=
  ht.trans' ⟨rfl, rfl, rfl, by simp [World.setCell], fun k hk => Below.heap_setCell _ _ _ _ (by simp; omega)⟩
theorem and1_u8 (m : Int) (h0 : 0 ≤ m) (h1 : m < 256) : bits BinOp.and IntKind.u8 m 1 = m % 2 := by
  have h : ∀ r : Nat, r < 256 → bits BinOp.and IntKind.u8 (r : Int) 1 = (r : Int) % 2 := by decide +kernel
  have := h m.toNat (by omega)
  rw [show ((m.toNat : Nat) : Int) = m by omega] at this
  exact this
def CxRel (g d h : Nat) (m : Int) (st : RS) (w : World) (i : Value) (wx : World) : Prop :=
  (i = .int .i64 0 ∧ Blk wx h #[.int .u64 0, .int .u64 0] 480 ∧ RD wx g d st ∧ Tch g w wx) ∨
  (i = .int .i64 1 ∧ Blk wx h #[.int .u64 (partR (decide (m % 2 = 1)) st).1, .int .u64 0] 480 ∧ RD wx g d (partR (decide (m % 2 = 1)) st).2 ∧ Tch g w wx) ∨
  (i = .int .i64 2 ∧ Blk wx h #[.int .u64 (partR (decide (m % 2 = 1)) st).1, .int .u64 (partR (decide (m / 2 % 2 = 1)) (partR (decide (m % 2 = 1)) st).2).1] 480 ∧ RD wx g d (partR (decide (m / 2 % 2 = 1)) (partR (decide (m % 2 = 1)) st).2).2 ∧ Tch g w wx)
theorem vtc_any (g d : Nat) (st : RS) (ver : Int) (w : World) (h : RD w g d st) :
    Calls Tryz.prog 337 #[.pointer (some ⟨g, 0, none⟩), .int .u8 ver] w (RPost g d w (.complex .f64 (complexR ver st).1.1 (complexR ver st).1.2) (complexR ver st).2) := by
  have H := Hm h
  have hok : st.ok := by obtain ⟨_, _, _, hok, _⟩ := h; exact hok
  clear h
  by_cases h1 : ver = 1
  · subst h1
    have HW := Hm (fun w h => rword2_any g d st w h)
    unfold complexR
    rw [if_pos rfl]
    simp only
    generalize wordR st = U at *
    obtain ⟨x, st1⟩ := U
    simp only at *
    have HW2 := Hm (fun w h => rword2_any g d st1 w h)
    generalize wordR st1 = U at *
    obtain ⟨y, st2⟩ := U
    simp only at *
    go_enter Tryz.func337, Tryz.ntmps337
    go_upto_region 3 with (go_at_call 334; refine (HW.out _ H.out).mono ?_; rintro e w1 ⟨rfl, hr, ht⟩; have HR := Hm hr; have HT := Hm ht; clear hr ht)
    go_wp2_with (first
      | (go_at_call 334; refine (HW2.out _ HR.out).mono ?_; rintro e w2 ⟨rfl, hr, ht⟩; have HR2 := Hm hr; have HT2 := Hm ht; clear hr ht)
      | (go_at_call 245; refine (vof_any x y _).mono ?_; rintro e w3 ⟨rfl, rfl⟩))
    go_ret
    exact ⟨by first | rfl | simp, HR2.out, HT.out.trans HT2.out⟩
  · have HBy := Hm (fun w h => rbyte_any g d st w h)
    unfold complexR
    rw [if_neg h1]
    simp only
    have hm : 0 ≤ (byteR st).1 ∧ (byteR st).1 < 256 := by
      have := bytesR_isB hok 1
      unfold byteR
      simp only
      cases hL : (bytesR 1 st).1 with
      | nil => simp
      | cons x L => rw [hL] at this; exact this.head
    generalize byteR st = U at *
    obtain ⟨m, st1⟩ := U
    simp only at *
    obtain ⟨hm0, hm1⟩ := hm
    generalize hST : (if 3 < m then giveS st1 4 else st1) = st2
    have HST := Hm hST
    clear hST
    have hand := and1_u8
    go_enter Tryz.func337, Tryz.ntmps337
    go_upto_if 20 with (first
      | (go_at_call 197; refine (HBy.out _ H.out).mono ?_; rintro e w1 ⟨rfl, hr, ht⟩; have HR := Hm hr; have HT := Hm ht; clear hr ht))
    go_cut [] (fun wx => Hid (RD wx g d st2) ∧ Hid (Tch g w wx))
    case first =>
      by_cases h3 : 3 < m
      · go_wp2_with (go_at_call 200; refine (fail_any g d st1 4 _ HR.out).mono ?_; rintro e w2 ⟨rfl, hr, ht⟩; have HR2 := Hm hr; have HT2 := Hm ht; clear hr ht)
        go_meet
        case rel => exact ⟨by rw [← HST.out, if_pos h3]; exact HR2.out, HT.out.trans HT2.out⟩
      · go_wp2
        go_meet
        case rel => exact ⟨by rw [← HST.out, if_neg (by omega)]; exact HR.out, HT.out⟩
    case rest =>
      obtain ⟨HR2, HT2⟩ := hcut
      clear HR HT HST HBy H
      go_wp2
      go_loopw [23] (fun i wx => CxRel g d wc.heap.size m st2 w i wx) (fun i _ => 2 - (intOf i).toNat)
      case atStart =>
        have hgh := HR2.out.lt
        exact .inl ⟨rfl, Blk.new _ _ _, HR2.out.ext ((Ext.refl wc).alloc _), HT2.out.alloc _⟩
      case round =>
        have hgh : g < wc.heap.size := HR2.out.lt
        have hne : g ≠ wc.heap.size := by omega
        have hwh : w.heap.size ≤ wc.heap.size := HT2.out.size
        have hA0 := and1_u8 m hm0 hm1
        have hA1 := and1_u8 (m / 2) (by omega) (by omega)
        clear hand
        rcases hrel with ⟨rfl, hb, hr, ht⟩ | ⟨rfl, hb, hr, ht⟩ | ⟨rfl, hb, hr, ht⟩
        · have HBr := Hm hb
          have HRr := Hm hr
          have HTr := Hm ht
          clear hb hr ht
          by_cases b0 : m % 2 = 1
          · obtain ⟨x, S', hF⟩ : ∃ x S', floatR ver st2 = (x, S') := ⟨_, _, rfl⟩
            have HTF := Hm (fun w h => vtf_any g d st2 ver w h)
            rw [hF] at HTF
            simp only at HTF
            have HP : Hid (partR (decide (m % 2 = 1)) st2 = (x, if x = 0 then giveS S' 3 else S')) := Hm (by unfold partR; rw [decide_eq_true b0, if_pos rfl, ← floatR_ne h1, hF])
            have HF3 := Hm (fun w h => fail_any g d S' 3 w h)
            clear hF
            by_cases x0 : x = 0
            · have hx : (x : Int) = 0 := by omega
              rw [hx] at HTF
              have HX := Hm hx
              have HX0 := Hm x0
              clear hx x0
              go_wp2_with (first
                | (go_at_call 336; refine (HTF.out _ HRr.out).mono ?_; rintro e w1 ⟨rfl, hr1, ht1⟩; have HB1 := Hm (HBr.out.tch ht1 hne.symm); have k1 := HB1.out.cell; have f1 := HB1.out.frozen; have z1 := HB1.out.lt; have HR1 := Hm (hr1.tch ((Tch.refl wc.heap.size w1).set 0 (.int .u64 0)) hne.symm (.inr (Nat.le_of_lt hgh))); have HT1 := Hm ht1; clear hr1 ht1)
                | (go_at_call 200; refine (HF3.out _ HR1.out).mono ?_; rintro e w3 ⟨rfl, hr3, ht3⟩; have HR3 := Hm hr3; have HT3 := Hm ht3; clear hr3 ht3))
              go_roundw
              case rel =>
                refine .inr (.inl ⟨rfl, ?_, ?_, ?_⟩)
                · rw [HP.out, HX.out]; exact (HB1.out.set 0 _).tch HT3.out hne.symm
                · rw [HP.out, if_pos HX0.out]; exact HR3.out
                · exact ((HTr.out.trans HT1.out).setNew hwh _ _).trans HT3.out
              case measure => simp [intOf]
            · have x1 : ((x : Int) == 0) = false := by simpa using x0
              go_wp2_with (first
                | (go_at_call 336; refine (HTF.out _ HRr.out).mono ?_; rintro e w1 ⟨rfl, hr1, ht1⟩; have HB1 := Hm (HBr.out.tch ht1 hne.symm); have k1 := HB1.out.cell; have f1 := HB1.out.frozen; have z1 := HB1.out.lt; have HR1 := Hm (hr1.tch ((Tch.refl wc.heap.size w1).set 0 (.int .u64 x)) hne.symm (.inr (Nat.le_of_lt hgh))); have HT1 := Hm ht1; clear hr1 ht1))
              go_roundw
              case rel =>
                refine .inr (.inl ⟨rfl, ?_, ?_, ?_⟩)
                · rw [HP.out]; exact HB1.out.set 0 _
                · rw [HP.out, if_neg x0]; exact HR1.out
                · exact (HTr.out.trans HT1.out).setNew hwh _ _
              case measure => simp [intOf]
          · have HP : Hid (partR (decide (m % 2 = 1)) st2 = (0, st2)) := Hm (by unfold partR; rw [decide_eq_false b0]; rfl)
            have b1 : m % 2 = 0 := by omega
            clear b0
            go_wp2
            go_roundw
            case rel =>
              refine .inr (.inl ⟨rfl, ?_, ?_, ?_⟩)
              · rw [HP.out]; exact HBr.out
              · rw [HP.out]; exact HRr.out
              · exact HTr.out
            case measure => simp [intOf]
        · obtain ⟨P0, hP0⟩ : ∃ P0, P0 = partR (decide (m % 2 = 1)) st2 := ⟨_, rfl⟩
          have HPP := Hm hP0
          rw [← hP0] at hb hr
          clear hP0
          obtain ⟨p0, S0⟩ := P0
          simp only at hb hr
          have HBr := Hm hb
          have HRr := Hm hr
          have HTr := Hm ht
          clear hb hr ht
          by_cases b0 : m / 2 % 2 = 1
          · obtain ⟨x, S', hF⟩ : ∃ x S', floatR ver S0 = (x, S') := ⟨_, _, rfl⟩
            have HTF := Hm (fun w h => vtf_any g d S0 ver w h)
            rw [hF] at HTF
            simp only at HTF
            have HP : Hid (partR (decide (m / 2 % 2 = 1)) S0 = (x, if x = 0 then giveS S' 3 else S')) := Hm (by unfold partR; rw [decide_eq_true b0, if_pos rfl, ← floatR_ne h1, hF])
            have HF3 := Hm (fun w h => fail_any g d S' 3 w h)
            clear hF
            by_cases x0 : x = 0
            · have hx : (x : Int) = 0 := by omega
              rw [hx] at HTF
              have HX := Hm hx
              have HX0 := Hm x0
              clear hx x0
              go_wp2_with (first
                | (go_at_call 336; refine (HTF.out _ HRr.out).mono ?_; rintro e w1 ⟨rfl, hr1, ht1⟩; have HB1 := Hm (HBr.out.tch ht1 hne.symm); have k1 := HB1.out.cell; have f1 := HB1.out.frozen; have z1 := HB1.out.lt; have HR1 := Hm (hr1.tch ((Tch.refl wc.heap.size w1).set 1 (.int .u64 0)) hne.symm (.inr (Nat.le_of_lt hgh))); have HT1 := Hm ht1; clear hr1 ht1)
                | (go_at_call 200; refine (HF3.out _ HR1.out).mono ?_; rintro e w3 ⟨rfl, hr3, ht3⟩; have HR3 := Hm hr3; have HT3 := Hm ht3; clear hr3 ht3))
              go_roundw
              case rel =>
                refine .inr (.inr ⟨rfl, ?_, ?_, ?_⟩)
                · rw [← HPP.out, HP.out, HX.out]; exact (HB1.out.set 1 _).tch HT3.out hne.symm
                · rw [← HPP.out, HP.out, if_pos HX0.out]; exact HR3.out
                · exact ((HTr.out.trans HT1.out).setNew hwh _ _).trans HT3.out
              case measure => simp [intOf]
            · have x1 : ((x : Int) == 0) = false := by simpa using x0
              go_wp2_with (first
                | (go_at_call 336; refine (HTF.out _ HRr.out).mono ?_; rintro e w1 ⟨rfl, hr1, ht1⟩; have HB1 := Hm (HBr.out.tch ht1 hne.symm); have k1 := HB1.out.cell; have f1 := HB1.out.frozen; have z1 := HB1.out.lt; have HR1 := Hm (hr1.tch ((Tch.refl wc.heap.size w1).set 1 (.int .u64 x)) hne.symm (.inr (Nat.le_of_lt hgh))); have HT1 := Hm ht1; clear hr1 ht1))
              go_roundw
              case rel =>
                refine .inr (.inr ⟨rfl, ?_, ?_, ?_⟩)
                · rw [← HPP.out, HP.out]; exact HB1.out.set 1 _
                · rw [← HPP.out, HP.out, if_neg x0]; exact HR1.out
                · exact (HTr.out.trans HT1.out).setNew hwh _ _
              case measure => simp [intOf]
          · have HP : Hid (partR (decide (m / 2 % 2 = 1)) S0 = (0, S0)) := Hm (by unfold partR; rw [decide_eq_false b0]; rfl)
            have b1 : m / 2 % 2 = 0 := by omega
            clear b0
            go_wp2
            go_roundw
            case rel =>
              refine .inr (.inr ⟨rfl, ?_, ?_, ?_⟩)
              · rw [← HPP.out, HP.out]; exact HBr.out
              · rw [← HPP.out, HP.out]; exact HRr.out
              · exact HTr.out
            case measure => simp [intOf]
        · have HRr := Hm hr
          have HTr := Hm ht
          generalize partR (decide (m % 2 = 1)) st2 = P0 at *
          obtain ⟨p0, S0⟩ := P0
          simp only at *
          generalize partR (decide (m / 2 % 2 = 1)) S0 = P1 at *
          obtain ⟨p1, S1⟩ := P1
          simp only at *
          have k1 := hb.cell
          clear hr ht hb
          go_wp2_with (go_at_call 245; refine (vof_any p0 p1 _).mono ?_; rintro e w3 ⟨rfl, rfl⟩)
          go_ret
          exact ⟨by first | rfl | simp, HRr.out, HTr.out⟩
def RF (w : World) (g d : Nat) (st : RS) : Prop := ∃ v L at', Blk w g #[v, .int .i64 (at' : Nat), .int .i64 st.e] 264 ∧ SB w g d v L ∧ at' ≤ L.length ∧ st.l = (if st.e = 0 then L.drop at' else []) ∧ isB L ∧ L.length ≤ 1000000
theorem RF.ext {w w1 : World} {g d : Nat} {st : RS} (hr : RF w g d st) (he : Ext w w1) : RF w1 g d st := by
  obtain ⟨v, L, a, h1, h2, h3⟩ := hr
  exact ⟨v, L, a, h1.ext he, h2.ext he, h3⟩
theorem RF.drewN {w : World} {g d : Nat} {st : RS} (hr : RF w g d st) (n : Nat) : RF (w.drewN n) g d st := hr.ext ((Ext.refl w).drewN n)
theorem RF.tch {w w1 : World} {g d h : Nat} {st : RS} (hr : RF w g d st) (he : Tch h w w1) (hg : h ≠ g) (hd : h < d ∨ g ≤ h) : RF w1 g d st := by
  obtain ⟨v, L, a, h1, h2, h3⟩ := hr
  exact ⟨v, L, a, h1.tch he hg.symm, h2.tch he hd, h3⟩
theorem RF.lt {w : World} {g d : Nat} {st : RS} (hr : RF w g d st) : g < w.heap.size := by obtain ⟨v, L, a, h1, _⟩ := hr; exact h1.lt
theorem RF.ok {w : World} {g d : Nat} {st : RS} (hr : RF w g d st) : st.ok := by
  obtain ⟨v, L, a, _, _, _, hl, hb, _⟩ := hr
  refine ⟨fun h => by rw [hl, if_neg h], ?_⟩
  rw [hl]; split; exact hb.drop _; exact isB.nil
end Go.Proofs.YtjnafppkbhldlaaGreat
