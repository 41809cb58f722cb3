/-
What is taken of any bytes, its holes filled with letters, is encoded as just these bytes; what is encoded is too short where it is cut: rows in plain words.
-/
import Derived.Test.YtdbepkfblfhlhaaP16
import Derived.Test.YtdbepkfblfhlhaaMono
namespace Go.Proofs.Ytdbepkfblfhlhaa
open Go.RowKit

theorem right_types {r : Rl} (h : r.right = 0) {i : Nat} (hi : i < r.cols.length) : 1 ≤ r.cols[i].ty ∧ r.cols[i].ty ≤ 6 := by
  have h0 : firstE (colAt r.cols) r.cols.length = 0 := by
    unfold Rl.right at h
    (repeat' split at h) <;> first | omega | (rename_i h1 _; exact Classical.not_not.1 h1) | (exfalso; omega)
  have h1 := firstE_all h0 i hi
  rw [colAt_lt hi] at h1
  unfold colE at h1
  (repeat' split at h1) <;> first | omega | (exfalso; omega)
theorem zero_right {kind : Int} (h : 1 ≤ kind ∧ kind ≤ 6) : K.zero.right kind = 0 := by
  have e : K.zero.right kind = rightC 0 0 0 0 0 ByteArray.empty kind := rfl
  have hs : ByteArray.empty.size = 0 := rfl
  rw [e]
  unfold rightC
  (repeat' split) <;> first | rfl | omega | (exfalso; omega) | (rename_i h0; exact absurd ⟨rfl, rfl, rfl, rfl, rfl⟩ h0)
/-- Where bytes are to be filled in there is nothing yet. -/
def Hol (kind : Int) (x : (K × Nat) × RS) : Prop := x.1.2 ≠ 0 → x.1.1 = fullT kind
theorem Hol.zero {kind : Int} {c : K} {S : RS} : Hol kind ((c, 0), S) := fun h => absurd rfl h
theorem Hol.full {kind : Int} {m : Nat} {S : RS} : Hol kind ((fullT kind, m), S) := fun _ => rfl
theorem hol_first (kind : Int) (st : RS) : Hol kind (firstC kind st) := by
  unfold firstC textK
  simp only
  (repeat' split) <;> first | exact Hol.zero | exact Hol.full
theorem hol_second (kind : Int) (st : RS) : Hol kind (secondC kind st) := by
  unfold secondC textK
  simp only
  (repeat' split) <;> first | exact Hol.zero | exact Hol.full
theorem takeC_hole {kind ver : Int} {st : RS} (h : (takeC kind ver st).1.2 ≠ 0) : (takeC kind ver st).1.1 = fullT kind := by
  have key : Hol kind (takeC kind ver st) := by
    unfold takeC finC
    split
    · exact Hol.zero
    · unfold preC
      (repeat' split) <;> first | exact hol_first kind st | exact hol_second kind st | exact Hol.zero
  exact key h

/-- The texts that holes are filled with. -/
def txO (O : List Ho) : List ByteArray := O.map fun h => fillS ByteArray.empty h.n.toNat
theorem txO_len (O : List Ho) : (txO O).length = O.length := by simp [txO]

theorem setText_low {l : List K} {c : K} {i : Nat} {s : ByteArray} (h : i < l.length) : setText (l ++ [c]) i s = setText l i s ++ [c] := by
  unfold setText
  rw [dif_pos (by rw [List.length_append]; omega), dif_pos h, List.set_append_left _ _ h]
  simp only [List.getElem_append_left h]
theorem setText_last {l : List K} {c : K} {s : ByteArray} : setText (l ++ [c]) l.length s = l ++ [⟨c.k, { c.v with s := s }⟩] := by
  unfold setText
  rw [dif_pos (by rw [List.length_append, List.length_singleton]; omega), List.set_append_right _ _ (Nat.le_refl _)]
  simp
theorem fillUp_low {l : List K} {c : K} {hs : List Ho} {ts : List ByteArray} (h : ∀ o ∈ hs, 0 ≤ o.c ∧ o.c < l.length) : ∀ j, fillUp (l ++ [c]) hs ts j = fillUp l hs ts j ++ [c]
  | 0 => rfl
  | j + 1 => by
    have ih := fillUp_low (l := l) (c := c) (hs := hs) (ts := ts) h j
    by_cases h1 : j < hs.length ∧ j < ts.length
    · have ho := h _ (List.getElem_mem h1.1)
      rw [fillUp_succ h1.1 h1.2, fillUp_succ h1.1 h1.2, ih, setText_low (by rw [fillUp_len]; omega)]
    · conv => lhs; unfold fillUp
      conv => rhs; unfold fillUp
      rw [dif_neg h1, dif_neg h1]; exact ih
theorem fillUp_ahead {l : List K} {hs : List Ho} {ts : List ByteArray} {o : Ho} {t : ByteArray} : ∀ j, j ≤ hs.length → j ≤ ts.length → fillUp l (hs ++ [o]) (ts ++ [t]) j = fillUp l hs ts j
  | 0, _, _ => rfl
  | j + 1, h1, h2 => by
    have ih := fillUp_ahead (l := l) (hs := hs) (ts := ts) (o := o) (t := t) j (by omega) (by omega)
    rw [fillUp_succ (show j < (hs ++ [o]).length by rw [List.length_append]; omega) (show j < (ts ++ [t]).length by rw [List.length_append]; omega), fillUp_succ (by omega) (by omega), ih, List.getElem_append_left (by omega), List.getElem_append_left (by omega)]

/-- What the first k columns gave. -/
structure TkInv (nulls : List Bool) (cols : List Col) (ver : Int) (b : List Int) (k : Nat) (M : List K) (O : List Ho) (l : List Int) (F : List K) : Prop where
  len : F.length = k
  lenM : M.length = k
  isl : isB l
  put : b = cellsPut ver F (cols.take k) ++ l
  cell : ∀ i (h1 : i < F.length) (h2 : i < cols.length) (h3 : i < nulls.length), F[i].right cols[i].ty = 0 ∧ decide (F[i].k = 0) = nulls[i]
  tw : ∀ c ∈ F, c.tw
  holes : ∀ o ∈ O, 0 ≤ o.c ∧ o.c < k ∧ 0 ≤ o.n ∧ o.n ≤ 2048
  fill : fillUp M O (txO O) O.length = F

theorem TkInv.snoc {nulls : List Bool} {cols : List Col} {ver : Int} {b l l2 p : List Int} {k : Nat} {M F : List K} {O O2 : List Ho} {c d : K} (h : TkInv nulls cols ver b k M O l F) (hk : k < nulls.length) (hk2 : k < cols.length)
    (hl : l = p ++ l2) (hp : p = if d.k = 0 then [] else d.put cols[k].ty ver) (hr : d.right cols[k].ty = 0) (hn : decide (d.k = 0) = nulls[k]) (ht : d.tw)
    (hO : (O2 = O ∧ c = d) ∨ ∃ m : Nat, m ≤ 2048 ∧ O2 = O ++ [⟨k, (m : Nat)⟩] ∧ d = ⟨c.k, { c.v with s := fillS ByteArray.empty m }⟩) : TkInv nulls cols ver b (k + 1) (M ++ [c]) O2 l2 (F ++ [d]) := by
  have hF := h.len
  have hlow : ∀ o ∈ O, 0 ≤ o.c ∧ o.c < M.length := fun o ho => by have := h.holes o ho; rw [h.lenM]; exact ⟨this.1, this.2.1⟩
  refine ⟨by rw [List.length_append, hF]; rfl, by rw [List.length_append, h.lenM]; rfl, ?_, ?_, ?_, ?_, ?_, ?_⟩
  · exact fun z hz => h.isl z (by rw [hl]; exact List.mem_append.2 (.inr hz))
  · have h1 : k < (F ++ [d]).length := by rw [List.length_append, hF]; exact Nat.lt_succ_self k
    have h2 := cellsPut_snoc ver (F ++ [d]) cols k h1 hk2
    have e1 : (F ++ [d]).take (k + 1) = F ++ [d] := List.take_of_length_le (by rw [List.length_append, hF]; exact Nat.le_refl _)
    have e2 : (F ++ [d]).take k = F := by rw [List.take_append_of_le_length (by omega), List.take_of_length_le (by omega)]
    have e3 : (F ++ [d])[k] = d := by rw [List.getElem_append_right (by omega)]; simp [hF]
    rw [e1, e2, e3, ← hp] at h2
    rw [h2, List.append_assoc, ← hl]; exact h.put
  · intro i h1 h2 h3
    by_cases hi : i < F.length
    · rw [List.getElem_append_left hi]; exact h.cell i hi h2 h3
    · rw [List.length_append, List.length_singleton] at h1
      obtain rfl : i = k := by omega
      have e3 : (F ++ [d])[i]'(by rw [List.length_append, List.length_singleton]; omega) = d := by rw [List.getElem_append_right (by omega)]; simp [hF]
      rw [e3]; exact ⟨hr, hn⟩
  · intro x hx
    rcases List.mem_append.1 hx with hx | hx
    · exact h.tw x hx
    · obtain rfl : x = d := by simpa using hx
      exact ht
  · intro o ho
    rcases hO with ⟨rfl, -⟩ | ⟨m, hm, rfl, -⟩
    · have := h.holes o ho; omega
    · rcases List.mem_append.1 ho with ho | ho
      · have := h.holes o ho; omega
      · obtain rfl : o = _ := by simpa using ho
        simp only; omega
  · rcases hO with ⟨rfl, rfl⟩ | ⟨m, -, rfl, rfl⟩
    · rw [fillUp_low hlow, h.fill]
    · have et : txO (O ++ [⟨(k : Int), (m : Int)⟩]) = txO O ++ [fillS ByteArray.empty m] := by simp [txO]
      have el : (O ++ [(⟨(k : Int), (m : Int)⟩ : Ho)]).length = O.length + 1 := by simp
      have h1 : O.length < (O ++ [(⟨(k : Int), (m : Int)⟩ : Ho)]).length := by rw [el]; exact Nat.lt_succ_self _
      have h2 : O.length < (txO O ++ [fillS ByteArray.empty m]).length := by rw [List.length_append, txO_len]; exact Nat.lt_succ_self _
      have e4 : (O ++ [(⟨(k : Int), (m : Int)⟩ : Ho)])[O.length] = ⟨(k : Int), (m : Int)⟩ := by simp
      have e5 : (txO O ++ [fillS ByteArray.empty m])[O.length] = fillS ByteArray.empty m := by
        rw [List.getElem_append_right (by rw [txO_len]; exact Nat.le_refl _)]; simp
      rw [el, et, fillUp_succ h1 h2, e4, e5, fillUp_ahead _ (Nat.le_refl _) (by rw [txO_len]; exact Nat.le_refl _), fillUp_low hlow, h.fill]
      have : (k : Int).toNat = F.length := by rw [hF]; exact Int.toNat_natCast k
      simp only [this]
      exact setText_last

theorem tkUp_inv {nulls : List Bool} {cols : List Col} {ver : Int} {b : List Int} (hb : isB b) (hty : ∀ i (h : i < cols.length), 1 ≤ cols[i].ty ∧ cols[i].ty ≤ 6) : ∀ k, k ≤ nulls.length → k ≤ cols.length → (tkUp nulls cols ver ⟨b, 0⟩ k).2.e = 0 →
    ∃ F, TkInv nulls cols ver b k (tkUp nulls cols ver ⟨b, 0⟩ k).1.1 (tkUp nulls cols ver ⟨b, 0⟩ k).1.2 (tkUp nulls cols ver ⟨b, 0⟩ k).2.l F
  | 0, _, _, _ => ⟨[], ⟨rfl, rfl, hb, rfl, fun i h => absurd h (Nat.not_lt_zero _), (fun c hc => by cases hc), (fun o ho => by cases ho), rfl⟩⟩
  | k + 1, h1, h2, h => by
    have hk : k < nulls.length := by omega
    have hk2 : k < cols.length := by omega
    cases hn : nulls[k] with
    | true =>
      rw [tkUp_null hk hk2 hn] at h ⊢
      obtain ⟨F, hF⟩ := tkUp_inv hb hty k (by omega) (by omega) h
      exact ⟨F ++ [K.zero], hF.snoc (p := []) hk hk2 rfl rfl (zero_right (hty k hk2)) (by rw [hn]; rfl) ⟨⟨by decide, Nat.zero_le _⟩, by decide, by decide, by decide⟩ (.inl ⟨rfl, rfl⟩)⟩
    | false =>
      obtain ⟨c, m, S, hq⟩ : ∃ c m S, takeC cols[k].ty ver (tkUp nulls cols ver ⟨b, 0⟩ k).2 = ((c, m), S) := ⟨_, _, _, rfl⟩
      have hcell := tkUp_cell hk hk2 hn hq
      rw [hcell] at h ⊢
      simp only at h ⊢
      have he : (tkUp nulls cols ver ⟨b, 0⟩ k).2.e = 0 := Classical.byContradiction fun h0 => by
        have := (Mn.cell cols[k].ty ver).keep _ h0
        rw [hq] at this
        exact h0 (this ▸ h)
      obtain ⟨F, hF⟩ := tkUp_inv hb hty k (by omega) (by omega) he
      rw [RS.eta _ he] at hq
      have hS : S = ⟨S.l, 0⟩ := RS.eta S h
      rw [hS] at hq
      obtain ⟨hk0, herr, hwf, hput, hm, hs⟩ := takeC_inv hF.isl hq
      obtain ⟨-, hr, hkk, -⟩ := errC_zero (k := (c.fill m).k) hk0 herr
      have hne : (c.fill m).k ≠ 0 := by omega
      refine ⟨F ++ [c.fill m], hF.snoc hk hk2 hput (by rw [if_neg hne]) hr (by rw [hn, decide_eq_false hne]) ⟨⟨hk0, ?_⟩, hwf.1, hwf.2.1, hwf.2.2⟩ ?_⟩
      · show (fillS c.v.s m).size ≤ _
        rw [fillS_size]; omega
      · by_cases h0 : m = 0
        · rw [if_neg (by omega)]
          subst h0
          exact .inl ⟨rfl, (K.fill_zero c).symm⟩
        · rw [if_pos (by omega)]
          refine .inr ⟨m, hm, rfl, ?_⟩
          have hfull : c = fullT cols[k].ty := by
            have := takeC_hole (kind := cols[k].ty) (ver := ver) (st := ⟨(tkUp nulls cols ver ⟨b, 0⟩ k).2.l, 0⟩) (by rw [hq]; exact h0)
            rw [hq] at this
            exact this
          rw [hfull]
          rfl

/-- What is taken of all bytes, filled with letters, is encoded as these. -/
theorem takeT_inv {r : Rl} {ver : Int} {b : List Int} (hb : isB b) {M : List K} {O : List Ho} (h : takeT r ver ⟨b, 0⟩ = ((M, O), ⟨[], 0⟩)) :
    (ver = 1 ∨ ver = 2) ∧ fillE M O (txO O) = 0 ∧ ∃ F, fillW M O (txO O) = F ∧ fitsE F r = 0 ∧ rowPut F r.cols ver = b ∧ (∀ c ∈ F, c.tw) ∧ (∀ o ∈ O, 0 ≤ o.n ∧ o.n ≤ 2048) ∧ M.length = r.cols.length ∧ O.length ≤ 1000 := by
  unfold takeT at h
  by_cases h0 : (begR r ver ⟨b, 0⟩).e ≠ 0
  · rw [if_pos h0] at h
    exact absurd (congrArg (fun z => z.2.e) h) h0
  rw [if_neg h0] at h
  have hbeg : (ver = 1 ∨ ver = 2) ∧ r.right = 0 := by
    unfold begR at h0
    by_cases hv : ver = 1 ∨ ver = 2
    · rw [if_pos hv] at h0
      exact ⟨hv, (failS_e (Classical.not_not.1 h0)).1⟩
    · rw [if_neg hv] at h0
      exact absurd (giveS_e (by decide)) h0
  obtain ⟨hv, hr⟩ := hbeg
  have hb0 : begR r ver ⟨b, 0⟩ = ⟨b, 0⟩ := by unfold begR failS; rw [if_pos hv, if_neg (by simpa using hr)]
  rw [hb0] at h
  by_cases h1 : (bytesR (mapSize r.cols.length) ⟨b, 0⟩).2.e ≠ 0
  · rw [if_pos h1] at h
    exact absurd (congrArg (fun z => z.2.e) h) h1
  rw [if_neg h1] at h
  obtain ⟨m, S, hm⟩ : ∃ m S, bytesR (mapSize r.cols.length) ⟨b, 0⟩ = (m, S) := ⟨_, _, rfl⟩
  rw [hm] at h h1
  simp only at h h1
  obtain ⟨l, rfl⟩ : ∃ l, S = ⟨l, 0⟩ := ⟨_, RS.eta S (Classical.not_not.1 h1)⟩
  obtain ⟨hbl, hml⟩ := bytesR_inv hm
  obtain ⟨hr16, -⟩ : r.cols.length ≤ 16 ∧ True := ⟨by unfold Rl.right at hr; (repeat' split at hr) <;> first | omega | (exfalso; omega), trivial⟩
  by_cases h2 : (unmapL m r.cols.length).2 = 0
  case neg =>
    have hf : failS (⟨l, 0⟩ : RS) (unmapL m r.cols.length).2 = ⟨[], (unmapL m r.cols.length).2⟩ := by unfold failS; rw [if_pos h2]; rfl
    rw [hf] at h
    have hk := (Mn.up (unmapL m r.cols.length).1 r.cols ver (unmapL m r.cols.length).1.length).keep ⟨[], (unmapL m r.cols.length).2⟩ h2
    simp only at hk
    unfold finT at h
    rw [if_pos (by rw [hk]; exact h2)] at h
    have := congrArg (fun z => z.2.e) h
    simp only at this
    rw [hk] at this
    exact absurd this h2
  have hbm : isB m := fun z hz => hb z (by rw [hbl]; exact List.mem_append.2 (.inl hz))
  have hbl2 : isB l := fun z hz => hb z (by rw [hbl]; exact List.mem_append.2 (.inr hz))
  obtain ⟨hnl, hmap⟩ := map_unmap hbm hml h2
  have hf : failS (⟨l, 0⟩ : RS) (unmapL m r.cols.length).2 = ⟨l, 0⟩ := by unfold failS; rw [if_neg (by simpa using h2)]
  rw [hf] at h
  generalize (unmapL m r.cols.length).1 = nulls at h hnl hmap
  rw [hnl] at h
  have he : (tkUp nulls r.cols ver ⟨l, 0⟩ r.cols.length).2.e = 0 := Classical.byContradiction fun h3 => by
    unfold finT at h
    rw [if_pos h3] at h
    exact h3 (congrArg (fun z => z.2.e) h)
  unfold finT at h
  rw [if_neg (by simpa using he)] at h
  obtain ⟨F, hF⟩ := tkUp_inv hbl2 (fun i hi => right_types hr hi) r.cols.length (by omega) (Nat.le_refl _) he
  rw [h] at hF
  simp only at hF
  have hE : fillE M O (txO O) = 0 := by
    refine fillE_ok (txO_len O).symm (fun j hj => ?_) (fun j hj => ?_)
    · unfold holeBad
      rw [dif_pos hj]
      have := hF.holes _ (List.getElem_mem hj)
      rw [if_neg (by rw [hF.lenM]; omega)]
    · unfold sizeBad
      have hj2 : j < (txO O).length := by rw [txO_len]; exact hj
      rw [dif_pos ⟨hj, hj2⟩]
      have e : (txO O)[j] = fillS ByteArray.empty O[j].n.toNat := by simp [txO]
      have hn := (hF.holes _ (List.getElem_mem hj)).2.2.1
      rw [e, fillS_size, if_neg]
      have : ByteArray.empty.size = 0 := rfl
      omega
  refine ⟨hv, hE, F, ?_, ?_, ?_, hF.tw, fun o ho => (hF.holes o ho).2.2, hF.lenM, ?_⟩
  · unfold fillW; rw [if_pos hE]; exact hF.fill
  · unfold fitsE
    rw [if_neg (by simpa using hr), if_neg (by simpa using hF.len)]
    refine firstE_zero fun i hi => ?_
    rw [fitAt_lt hi (by rw [← hF.len]; exact hi)]
    exact (hF.cell i hi (by rw [← hF.len]; exact hi) (by rw [hnl, ← hF.len]; exact hi)).1
  · have hnn : nullsL F = nulls := by
      apply List.ext_getElem
      · rw [nullsL_len, hF.len, hnl]
      · intro i h3 h4
        rw [nullsL_len] at h3
        have := (hF.cell i h3 (by omega) h4).2
        simpa [nullsL] using this
    unfold rowPut
    rw [hnn, hmap, hbl]
    congr 1
    have := hF.put
    rw [List.append_nil, List.take_length] at this
    exact this.symm
  · have := tkUp_holes (nulls := nulls) (cols := r.cols) (ver := ver) (st := ⟨l, 0⟩) r.cols.length
    rw [h] at this
    simp only at this
    omega

/-- What is encoded is too short where it is cut. -/
theorem row_cut {l : List K} {r : Rl} {ver : Int} (hf : fitsE l r = 0) (hv : ver = 1 ∨ ver = 2) (hs : ∀ c ∈ l, c.tw) {k : Nat} (hk : k < (rowPut l r.cols ver).length) :
    (takeT r ver ⟨(rowPut l r.cols ver).take k, 0⟩).2.e = 1 ∧ (takeT r ver ⟨(rowPut l r.cols ver).take k, 0⟩).1 = ([], []) := by
  have h1 := takeT_put hf hv hs []
  rw [List.append_nil] at h1
  have h2 : (takeT r ver ⟨(rowPut l r.cols ver).take k, 0⟩).2.e = 1 :=
    (Mn.row r ver).cut (q := (rowPut l r.cols ver).take k) (r := (rowPut l r.cols ver).drop k) (by rw [List.take_append_drop, h1]) (fun h => by
      have := congrArg List.length h
      rw [List.length_drop, List.length_nil] at this
      omega)
  exact ⟨h2, takeT_bad (by rw [h2]; decide)⟩
theorem rowPut_pos {l : List K} {r : Rl} {ver : Int} (hf : fitsE l r = 0) : 0 < (rowPut l r.cols ver).length := by
  have h1 := (fits_cols hf).2
  have h2 := (fitsW_zero hf).2.1
  unfold rowPut
  rw [List.length_append, mapL_len, nullsL_len, h2]
  unfold mapSize
  omega

end Go.Proofs.Ytdbepkfblfhlhaa
