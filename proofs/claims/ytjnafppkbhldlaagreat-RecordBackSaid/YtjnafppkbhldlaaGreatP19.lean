/-
What is taken of any bytes, its holes filled with any texts of their sizes, is encoded as just these bytes, and has just these texts: rows in plain words.
-/
import Derived.Test.YtjnafppkbhldlaaGreatP18
set_option maxRecDepth 100000
set_option maxHeartbeats 16000000
namespace Go.Proofs.YtjnafppkbhldlaaGreat
open Go.RowKit
theorem largeR_gt {st : RS} (h : (largeR st).2.e = 0) : 64 < (largeR st).1 := by
  unfold largeR at h ⊢
  simp only at h ⊢
  by_cases h1 : (uintR 2048 st).1 ≤ 64
  · rw [if_pos h1] at h; exact absurd h (giveS_e (by decide))
  · omega
def Hol2 (x : (K × Nat) × RS) : Prop := x.2.e = 0 → x.1.2 ≠ 0 → 64 < x.1.2
theorem Hol2.zero {c : K} {S : RS} : Hol2 ((c, 0), S) := fun _ h => absurd rfl h
theorem Hol2.full {c : K} {st : RS} : Hol2 ((c, (largeR st).1), (largeR st).2) := fun h _ => largeR_gt h
theorem hol2_first (kind : Int) (st : RS) : Hol2 (firstC kind st) := by
  unfold firstC textK
  simp only
  (repeat' split) <;> first | exact Hol2.zero | exact Hol2.full
theorem hol2_second (kind : Int) (st : RS) : Hol2 (secondC kind st) := by
  unfold secondC textK
  simp only
  (repeat' split) <;> first | exact Hol2.zero | exact Hol2.full
theorem takeC_many {kind ver : Int} {st : RS} (h0 : (takeC kind ver st).2.e = 0) (h : (takeC kind ver st).1.2 ≠ 0) : 64 < (takeC kind ver st).1.2 := by
  have key : Hol2 (takeC kind ver st) := by
    unfold takeC finC
    split
    · exact Hol2.zero
    · unfold preC
      (repeat' split) <;> first | exact hol2_first kind st | exact hol2_second kind st | exact Hol2.zero
  exact key h0 h
def FitO (O : List Ho) (ts : List ByteArray) : Prop := ∀ j (h : j < O.length), ∃ h2 : j < ts.length, (ts[j].size : Int) = O[j].n
def zipO (O : List Ho) (ts : List ByteArray) : List (Nat × ByteArray) := List.zipWith (fun o t => (o.c.toNat, t)) O ts
theorem zipO_snoc {o : Ho} : ∀ {O : List Ho} {ts : List ByteArray} (h : O.length < ts.length), zipO (O ++ [o]) ts = zipO O ts ++ [(o.c.toNat, ts[O.length])]
  | [], t :: ts, _ => by simp [zipO]
  | a :: O, t :: ts, h => by
    have ih := zipO_snoc (o := o) (O := O) (ts := ts) (by simpa using h)
    unfold zipO at ih ⊢
    simp only [List.cons_append, List.zipWith_cons_cons, ih, List.length_cons, List.getElem_cons_succ]
theorem FitO.ahead {O : List Ho} {o : Ho} {ts : List ByteArray} (h : FitO (O ++ [o]) ts) : FitO O ts ∧ ∃ h2 : O.length < ts.length, (ts[O.length].size : Int) = o.n := by
  refine ⟨fun j hj => ?_, ?_⟩
  · obtain ⟨h2, h3⟩ := h j (by rw [List.length_append]; omega)
    rw [List.getElem_append_left hj] at h3
    exact ⟨h2, h3⟩
  · obtain ⟨h2, h3⟩ := h O.length (by rw [List.length_append, List.length_singleton]; omega)
    rw [List.getElem_append_right (Nat.le_refl _)] at h3
    exact ⟨h2, by simpa using h3⟩
theorem fillUp_ahead2 {l : List K} {hs : List Ho} {ts : List ByteArray} {o : Ho} : ∀ j, j ≤ hs.length → fillUp l (hs ++ [o]) ts j = fillUp l hs ts j
  | 0, _ => rfl
  | j + 1, h1 => by
    have ih := fillUp_ahead2 (l := l) (hs := hs) (ts := ts) (o := o) j (by omega)
    by_cases h2 : j < ts.length
    · rw [fillUp_succ (show j < (hs ++ [o]).length by rw [List.length_append]; omega) h2, fillUp_succ (by omega) h2, ih, List.getElem_append_left (by omega)]
    · conv => lhs; unfold fillUp
      conv => rhs; unfold fillUp
      rw [dif_neg (fun q => h2 q.2), dif_neg (fun q => h2 q.2)]
      exact ih
theorem larges_app {l m : List K} : ∀ k, k ≤ l.length → larges (l ++ m) k = larges l k
  | 0, _ => rfl
  | k + 1, h => by
    have ih := larges_app (l := l) (m := m) k (by omega)
    have hk : k < l.length := h
    unfold larges
    rw [dif_pos (show k < (l ++ m).length by rw [List.length_append]; omega), dif_pos hk, ih]
    simp only [List.getElem_append_left hk]
structure TkF (nulls : List Bool) (cols : List Col) (ver : Int) (b : List Int) (k : Nat) (M : List K) (O : List Ho) (l : List Int) (ts : List ByteArray) (F : List K) : Prop where
  len : F.length = k
  lenM : M.length = k
  isl : isB l
  put : b = cellsPut ver F (cols.take k) ++ l
  cell : ∀ i (h1 : i < F.length) (h3 : i < nulls.length), decide (F[i].k = 0) = nulls[i]
  tw : ∀ c ∈ F, c.tw
  holes : ∀ o ∈ O, 0 ≤ o.c ∧ o.c < k ∧ 64 < o.n ∧ o.n ≤ 2048
  fill : fillUp M O ts O.length = F
  lg : larges F k = zipO O ts
theorem TkF.snoc {nulls : List Bool} {cols : List Col} {ver : Int} {b l l2 p : List Int} {k : Nat} {M F : List K} {O O2 : List Ho} {ts : List ByteArray} {c d : K} (h : TkF nulls cols ver b k M O l ts F) (hk : k < nulls.length) (hk2 : k < cols.length)
    (hl : l = p ++ l2) (hp : p = if d.k = 0 then [] else d.put cols[k].ty ver) (hn : decide (d.k = 0) = nulls[k]) (ht : d.tw)
    (hO : (O2 = O ∧ c = d ∧ largeB d.k d.v.ty d.v.s = false) ∨ ∃ (m : Nat) (h2 : O.length < ts.length), 64 < m ∧ m ≤ 2048 ∧ O2 = O ++ [⟨k, (m : Nat)⟩] ∧ d = ⟨c.k, { c.v with s := ts[O.length] }⟩ ∧ largeB d.k d.v.ty d.v.s = true) : TkF nulls cols ver b (k + 1) (M ++ [c]) O2 l2 ts (F ++ [d]) := by
  have hF := h.len
  have hlow : ∀ o ∈ O, 0 ≤ o.c ∧ o.c < M.length := fun o ho => by have := h.holes o ho; rw [h.lenM]; exact ⟨this.1, this.2.1⟩
  have h1 : k < (F ++ [d]).length := by rw [List.length_append, hF]; exact Nat.lt_succ_self k
  have e3 : (F ++ [d])[k] = d := by rw [List.getElem_append_right (by omega)]; simp [hF]
  refine ⟨by rw [List.length_append, hF]; rfl, by rw [List.length_append, h.lenM]; rfl, ?_, ?_, ?_, ?_, ?_, ?_, ?_⟩
  · exact fun z hz => h.isl z (by rw [hl]; exact List.mem_append.2 (.inr hz))
  · have h2 := cellsPut_snoc ver (F ++ [d]) cols k h1 hk2
    have e1 : (F ++ [d]).take (k + 1) = F ++ [d] := List.take_of_length_le (by rw [List.length_append, hF]; exact Nat.le_refl _)
    have e2 : (F ++ [d]).take k = F := by rw [List.take_append_of_le_length (by omega), List.take_of_length_le (by omega)]
    rw [e1, e2, e3, ← hp] at h2
    rw [h2, List.append_assoc, ← hl]; exact h.put
  · intro i h1 h3
    by_cases hi : i < F.length
    · rw [List.getElem_append_left hi]; exact h.cell i hi h3
    · rw [List.length_append, List.length_singleton] at h1
      obtain rfl : i = k := by omega
      rw [e3]; exact hn
  · intro x hx
    rcases List.mem_append.1 hx with hx | hx
    · exact h.tw x hx
    · obtain rfl : x = d := by simpa using hx
      exact ht
  · intro o ho
    rcases hO with ⟨rfl, -⟩ | ⟨m, -, hm1, hm, rfl, -⟩
    · have := h.holes o ho; omega
    · rcases List.mem_append.1 ho with ho | ho
      · have := h.holes o ho; omega
      · obtain rfl : o = _ := by simpa using ho
        simp only; omega
  · rcases hO with ⟨rfl, rfl, -⟩ | ⟨m, hts, -, -, rfl, rfl, -⟩
    · rw [fillUp_low hlow, h.fill]
    · have el : (O ++ [(⟨(k : Int), (m : Int)⟩ : Ho)]).length = O.length + 1 := by simp
      have h5 : O.length < (O ++ [(⟨(k : Int), (m : Int)⟩ : Ho)]).length := by rw [el]; exact Nat.lt_succ_self _
      have e4 : (O ++ [(⟨(k : Int), (m : Int)⟩ : Ho)])[O.length] = ⟨(k : Int), (m : Int)⟩ := by simp
      rw [el, fillUp_succ h5 hts, e4, fillUp_ahead2 _ (Nat.le_refl _), fillUp_low hlow, h.fill]
      have : (k : Int).toNat = F.length := by rw [hF]; exact Int.toNat_natCast k
      simp only [this]
      exact setText_last
  · have e5 : larges (F ++ [d]) k = larges F k := larges_app k (by omega)
    rcases hO with ⟨rfl, rfl, hg⟩ | ⟨m, hts, -, -, rfl, hd, hg⟩
    · rw [larges_no h1 (by rw [e3]; exact hg), e5, h.lg]
    · rw [larges_yes h1 (by rw [e3]; exact hg), e5, h.lg, zipO_snoc hts, e3, hd]
      simp
theorem put_large_eq {k ty n : Int} {x y : Nat} {s t : ByteArray} {kind ver : Int} (h1 : largeB k ty s = true) (h2 : largeB k ty t = true) (hs : s.size = t.size) : putC k ty n x y s kind ver = putC k ty n x y t kind ver := by
  have hk : k = 2 := by unfold largeB at h1; rw [decide_eq_true_eq] at h1; exact h1.1
  subst hk
  rw [putC_large h1, putC_large h2, hs]
theorem tkUp_fill {nulls : List Bool} {cols : List Col} {ver : Int} {b : List Int} (hb : isB b) (hty : ∀ i (h : i < cols.length), 1 ≤ cols[i].ty ∧ cols[i].ty ≤ 6) (ts : List ByteArray) : ∀ k, k ≤ nulls.length → k ≤ cols.length → (tkUp nulls cols ver ⟨b, 0⟩ k).2.e = 0 → FitO (tkUp nulls cols ver ⟨b, 0⟩ k).1.2 ts →
    ∃ F, TkF nulls cols ver b k (tkUp nulls cols ver ⟨b, 0⟩ k).1.1 (tkUp nulls cols ver ⟨b, 0⟩ k).1.2 (tkUp nulls cols ver ⟨b, 0⟩ k).2.l ts F
  | 0, _, _, _, _ => ⟨[], ⟨rfl, rfl, hb, rfl, fun i h => absurd h (Nat.not_lt_zero _), (fun c hc => by cases hc), (fun o ho => by cases ho), rfl, rfl⟩⟩
  | k + 1, h1, h2, h, hfit => by
    have hk : k < nulls.length := by omega
    have hk2 : k < cols.length := by omega
    cases hn : nulls[k] with
    | true =>
      rw [tkUp_null hk hk2 hn] at h hfit ⊢
      obtain ⟨F, hF⟩ := tkUp_fill hb hty ts k (by omega) (by omega) h hfit
      exact ⟨F ++ [K.zero], hF.snoc (p := []) hk hk2 rfl rfl (by rw [hn]; rfl) ⟨⟨by decide, Nat.zero_le _⟩, by decide, by decide, by decide⟩ (.inl ⟨rfl, rfl, rfl⟩)⟩
    | false =>
      obtain ⟨c, m, S, hq⟩ : ∃ c m S, takeC cols[k].ty ver (tkUp nulls cols ver ⟨b, 0⟩ k).2 = ((c, m), S) := ⟨_, _, _, rfl⟩
      have hcell := tkUp_cell hk hk2 hn hq
      rw [hcell] at h hfit ⊢
      simp only at h hfit ⊢
      have he : (tkUp nulls cols ver ⟨b, 0⟩ k).2.e = 0 := Classical.byContradiction fun h0 => by
        have := (Mn.cell cols[k].ty ver).keep _ h0
        rw [hq] at this
        exact h0 (this ▸ h)
      have hfit0 : FitO (tkUp nulls cols ver ⟨b, 0⟩ k).1.2 ts := by
        by_cases h0 : 0 < m
        · rw [if_pos h0] at hfit; exact hfit.ahead.1
        · rw [if_neg h0] at hfit; exact hfit
      obtain ⟨F, hF⟩ := tkUp_fill hb hty ts k (by omega) (by omega) he hfit0
      rw [RS.eta _ he] at hq
      have hS : S = ⟨S.l, 0⟩ := RS.eta S h
      rw [hS] at hq
      obtain ⟨hk0, herr, hwf, hput, hm, hs⟩ := takeC_inv hF.isl hq
      obtain ⟨-, hr, hkk, -⟩ := errC_zero (k := (c.fill m).k) hk0 herr
      have hne : (c.fill m).k ≠ 0 := by omega
      by_cases h0 : m = 0
      · rw [if_neg (by omega)]
        have hcf : c.fill m = c := by rw [h0]; exact K.fill_zero c
        rw [hcf] at hput hne hwf hr hkk herr
        by_cases hlg : largeB c.k c.v.ty c.v.s = true
        · -- a cell taken whole is not large
          exfalso
          have h5 := takeC_put c cols[k].ty ver S.l hk0 herr hwf
          rw [← hput, hq] at h5
          have h6 := congrArg (fun z => z.1.2) h5
          unfold K.taken at h6
          rw [if_pos hlg] at h6
          simp only at h6
          unfold largeB at hlg
          rw [decide_eq_true_eq] at hlg
          omega
        · exact ⟨F ++ [c], hF.snoc hk hk2 hput (by rw [if_neg hne]) (by rw [hn, decide_eq_false hne]) ⟨⟨hk0, by omega⟩, hwf.1, hwf.2.1, hwf.2.2⟩ (.inl ⟨rfl, rfl, by simpa using hlg⟩)⟩
      · rw [if_pos (by omega)] at hfit ⊢
        obtain ⟨-, hlt, hsz⟩ := hfit.ahead
        simp only at hsz
        have hmany : 64 < m := by
          have := takeC_many (kind := cols[k].ty) (ver := ver) (st := ⟨(tkUp nulls cols ver ⟨b, 0⟩ k).2.l, 0⟩) (by rw [hq]) (by rw [hq]; exact h0)
          rw [hq] at this
          exact this
        have hfull : c = fullT cols[k].ty := by
          have := takeC_hole (kind := cols[k].ty) (ver := ver) (st := ⟨(tkUp nulls cols ver ⟨b, 0⟩ k).2.l, 0⟩) (by rw [hq]; exact h0)
          rw [hq] at this
          exact this
        obtain ⟨t, ht⟩ : ∃ t, t = ts[(tkUp nulls cols ver ⟨b, 0⟩ k).1.2.length] := ⟨_, rfl⟩
        rw [← ht] at hsz
        have htm : t.size = m := by omega
        subst hfull
        have hfm : (fillS ByteArray.empty m).size = m := by rw [fillS_size]; exact Nat.zero_add _
        have hk56 : cols[k].ty = 5 ∨ cols[k].ty = 6 := by
          have h7 := (right_full (show rightC 2 cols[k].ty 0 ((0 : Nat) : Int) ((0 : Nat) : Int) (fillS ByteArray.empty m) cols[k].ty = 0 from hr)).1
          obtain ⟨q1, q2, -, -, -, -, -, q8, -⟩ := right_zero h7
          by_cases h5 : cols[k].ty < 5
          · have := q8 h5; omega
          · omega
        have hL1 : largeB 2 cols[k].ty (fillS ByteArray.empty m) = true := large_mk hk56 (by omega)
        have hL2 : largeB 2 cols[k].ty t = true := large_mk hk56 (by omega)
        refine ⟨F ++ [⟨(fullT cols[k].ty).k, { (fullT cols[k].ty).v with s := t }⟩], hF.snoc (p := K.put ⟨(fullT cols[k].ty).k, { (fullT cols[k].ty).v with s := t }⟩ cols[k].ty ver) hk hk2 ?_ (if_neg (show ¬ ((2 : Int) = 0) by decide)).symm (by rw [hn]; rfl) ⟨⟨by show (0 : Int) ≤ 2; decide, by show t.size ≤ _; omega⟩, by show (-9223372036854775808 : Int) ≤ 0 ∧ (0 : Int) < 9223372036854775808; decide, by show (0 : Nat) < 2 ^ 64; decide, by show (0 : Nat) < 2 ^ 64; decide⟩ (.inr ⟨m, hlt, hmany, hm, rfl, ?_, hL2⟩)⟩
        · rw [hput]
          congr 1
          exact put_large_eq (n := 0) (x := 0) (y := 0) hL1 hL2 (by show (fillS ByteArray.empty m).size = t.size; rw [hfm, htm])
        · rw [ht]
theorem zipO_holes : ∀ {O : List Ho} {ts : List ByteArray}, (∀ o ∈ O, 0 ≤ o.c) → FitO O ts → (zipO O ts).map (fun x => (⟨(x.1 : Int), (x.2.size : Int)⟩ : Ho)) = O
  | [], _, _, _ => by simp [zipO]
  | o :: O, [], _, h => by obtain ⟨h2, -⟩ := h 0 (by simp); simp at h2
  | o :: O, t :: ts, hc, h => by
    have ih := zipO_holes (O := O) (ts := ts) (fun x hx => hc x (List.mem_cons_of_mem _ hx)) (fun j hj => by
      obtain ⟨h2, h3⟩ := h (j + 1) (by simpa using hj)
      exact ⟨by simpa using h2, by simpa using h3⟩)
    obtain ⟨hz0, h3⟩ := h 0 (by simp)
    have h4 := hc o (by simp)
    simp only [List.getElem_cons_zero] at h3
    unfold zipO at ih ⊢
    rw [List.zipWith_cons_cons, List.map_cons, ih]
    obtain ⟨oc, on⟩ := o
    simp only at h3 h4 ⊢
    rw [h3, Int.toNat_of_nonneg h4]
theorem zipO_texts : ∀ {O : List Ho} {ts : List ByteArray}, ts.length = O.length → (zipO O ts).map Prod.snd = ts
  | [], ts, h => by simp at h; simp [h, zipO]
  | o :: O, [], h => by simp at h
  | o :: O, t :: ts, h => by
    have ih := zipO_texts (O := O) (ts := ts) (by simpa using h)
    unfold zipO at ih ⊢
    rw [List.zipWith_cons_cons, List.map_cons, ih]
theorem takeT_fill {r : Rl} {ver : Int} {b rest : List Int} (hb : isB b) {M : List K} {O : List Ho} (h : takeT r ver ⟨b, 0⟩ = ((M, O), ⟨rest, 0⟩)) (ts : List ByteArray) (hts : ts.length = O.length) (hfit : FitO O ts) :
    (ver = 1 ∨ ver = 2) ∧ isB rest ∧ r.right = 0 ∧ ∃ F, fillUp M O ts O.length = F ∧ b = rowPut F r.cols ver ++ rest ∧ txL F = ts ∧ hoL F = O ∧ (∀ c ∈ F, c.tw) ∧ F.length = r.cols.length ∧ M.length = r.cols.length ∧ (∀ o ∈ O, 0 ≤ o.c ∧ o.c < M.length ∧ 64 < o.n ∧ o.n ≤ 2048) := by
  unfold takeT at h
  by_cases h0 : (begR r ver ⟨b, 0⟩).e ≠ 0
  · rw [if_pos h0] at h
    exact absurd (congrArg (fun z => z.2.e) h) h0
  rw [if_neg h0] at h
  have hbeg : (ver = 1 ∨ ver = 2) ∧ r.right = 0 := by
    unfold begR at h0
    by_cases hv : ver = 1 ∨ ver = 2
    · rw [if_pos hv] at h0
      exact ⟨hv, (failS_e (Classical.not_not.1 h0)).1⟩
    · rw [if_neg hv] at h0
      exact absurd (giveS_e (by decide)) h0
  obtain ⟨hv, hr⟩ := hbeg
  have hb0 : begR r ver ⟨b, 0⟩ = ⟨b, 0⟩ := by unfold begR failS; rw [if_pos hv, if_neg (by simpa using hr)]
  rw [hb0] at h
  by_cases h1 : (bytesR (mapSize r.cols.length) ⟨b, 0⟩).2.e ≠ 0
  · rw [if_pos h1] at h
    exact absurd (congrArg (fun z => z.2.e) h) h1
  rw [if_neg h1] at h
  obtain ⟨m, S, hm⟩ : ∃ m S, bytesR (mapSize r.cols.length) ⟨b, 0⟩ = (m, S) := ⟨_, _, rfl⟩
  rw [hm] at h h1
  simp only at h h1
  obtain ⟨l, rfl⟩ : ∃ l, S = ⟨l, 0⟩ := ⟨_, RS.eta S (Classical.not_not.1 h1)⟩
  obtain ⟨hbl, hml⟩ := bytesR_inv hm
  by_cases h2 : (unmapL m r.cols.length).2 = 0
  case neg =>
    have hf : failS (⟨l, 0⟩ : RS) (unmapL m r.cols.length).2 = ⟨[], (unmapL m r.cols.length).2⟩ := by unfold failS; rw [if_pos h2]; rfl
    rw [hf] at h
    have hk := (Mn.up (unmapL m r.cols.length).1 r.cols ver (unmapL m r.cols.length).1.length).keep ⟨[], (unmapL m r.cols.length).2⟩ h2
    simp only at hk
    unfold finT at h
    rw [if_pos (by rw [hk]; exact h2)] at h
    have := congrArg (fun z => z.2.e) h
    simp only at this
    rw [hk] at this
    exact absurd this h2
  have hbm : isB m := fun z hz => hb z (by rw [hbl]; exact List.mem_append.2 (.inl hz))
  have hbl2 : isB l := fun z hz => hb z (by rw [hbl]; exact List.mem_append.2 (.inr hz))
  obtain ⟨hnl, hmap⟩ := map_unmap hbm hml h2
  have hf : failS (⟨l, 0⟩ : RS) (unmapL m r.cols.length).2 = ⟨l, 0⟩ := by unfold failS; rw [if_neg (by simpa using h2)]
  rw [hf] at h
  generalize (unmapL m r.cols.length).1 = nulls at h hnl hmap
  rw [hnl] at h
  have he : (tkUp nulls r.cols ver ⟨l, 0⟩ r.cols.length).2.e = 0 := Classical.byContradiction fun h3 => by
    unfold finT at h
    rw [if_pos h3] at h
    exact h3 (congrArg (fun z => z.2.e) h)
  unfold finT at h
  rw [if_neg (by simpa using he)] at h
  obtain ⟨F, hF⟩ := tkUp_fill hbl2 (fun i hi => right_types hr hi) ts r.cols.length (by omega) (Nat.le_refl _) he (by rw [h]; exact hfit)
  rw [h] at hF
  simp only at hF
  have hFl := hF.len
  refine ⟨hv, hF.isl, hr, F, hF.fill, ?_, ?_, ?_, hF.tw, hF.len, hF.lenM, fun o ho => by rw [hF.lenM]; exact hF.holes o ho⟩
  · have hnn : nullsL F = nulls := by
      apply List.ext_getElem
      · rw [nullsL_len, hF.len, hnl]
      · intro i h3 h4
        rw [nullsL_len] at h3
        have := hF.cell i h3 h4
        simpa [nullsL] using this
    have h5 := hF.put
    rw [List.take_length] at h5
    unfold rowPut
    rw [hnn, hmap, hbl, h5, List.append_assoc]
  · unfold txL
    rw [hFl, hF.lg, zipO_texts hts]
  · unfold hoL
    rw [hFl, hF.lg]
    exact zipO_holes (fun o ho => (hF.holes o ho).1) hfit
structure Pt where
  e : Ev
  hb : List Ho
  ha : List Ho
def Ev.zero : Ev := ⟨0, 0, 0, 0, [], [], [], 0⟩
def Pt.zero : Pt := ⟨Ev.zero, [], []⟩
def refR (st : RS) : Rf × RS := (⟨((uintR 4294967295 st).1 : Nat), ((uintR 4294967295 (uintR 4294967295 st).2).1 : Nat)⟩, (uintR 4294967295 (uintR 4294967295 st).2).2)
def refsR (st : RS) : Nat → List Rf × RS
  | 0 => ([], st)
  | k + 1 => ((refsR st k).1 ++ [(refR (refsR st k).2).1], (refR (refsR st k).2).2)
theorem refsR_len (st : RS) : ∀ k, (refsR st k).1.length = k
  | 0 => rfl
  | k + 1 => by unfold refsR; simp [refsR_len st k]
def truncR (st : RS) : Pt × RS := (⟨⟨7, 0, 0, 0, [], [], (refsR (uintR 8 (byteR st).2).2 (uintR 8 (byteR st).2).1).1, (byteR st).1⟩, [], []⟩, (refsR (uintR 8 (byteR st).2).2 (uintR 8 (byteR st).2).1).2)
def oldR (kind : Int) (st : RS) : Int × RS := if kind = 4 then (0, st) else byteR st
def capR (old : Int) (st : RS) : RS := if 2 < old then giveS st 14 else st
def befR (r : Rl) (ver old : Int) (st : RS) : (List K × List Ho) × RS := if old = 0 then (([], []), st) else takeT r ver st
def aftR (r : Rl) (ver kind : Int) (st : RS) : (List K × List Ho) × RS := if kind = 6 then (([], []), st) else takeT r ver st
def rowR (kind ver : Int) (a : Rf) (r : Rl) (st : RS) : Pt × RS :=
  let o := oldR kind st
  let b := befR r ver o.1 (capR o.1 o.2)
  let c := aftR r ver kind b.2
  (⟨⟨kind, a.o, a.v, o.1, b.1.1, c.1.1, [], 0⟩, b.1.2, c.1.2⟩, c.2)
def rowsR (kind : Int) (l : List Rl) (ver : Int) (st : RS) : Pt × RS :=
  match getR (refR st).1.o (refR st).1.v l with
  | none => (⟨⟨kind, (refR st).1.o, (refR st).1.v, 0, [], [], [], 0⟩, [], []⟩, giveS (refR st).2 10)
  | some r => rowR kind ver (refR st).1 r (refR st).2
def bodyE (kind : Int) (l : List Rl) (ver : Int) (st : RS) : Pt × RS := if kind = 7 then truncR st else rowsR kind l ver st
def takeEE (l : List Rl) (kind : Int) (b : List Int) (ver : Int) : Int := if kind < 4 ∨ 7 < kind then 7 else if ver = 1 ∨ ver = 2 then endE (bodyE kind l ver ⟨b, 0⟩).2 else 18
def takeEP (l : List Rl) (kind : Int) (b : List Int) (ver : Int) : Pt := if takeEE l kind b ver = 0 then (bodyE kind l ver ⟨b, 0⟩).1 else Pt.zero
theorem refR_put {r : Rf} (h : r.u32) (l : List Int) : refR ⟨(sevens r.o.toNat ++ sevens r.v.toNat) ++ l, 0⟩ = (r, ⟨l, 0⟩) := by
  have h1 := h.o
  have h2 := h.v
  have e64 : (2 : Nat) ^ 64 = 18446744073709551616 := by decide
  have a1 := uintR_sevens (x := r.o.toNat) (m := 4294967295) (sevens r.v.toNat ++ l) (by omega) (by omega)
  have a2 := uintR_sevens (x := r.v.toNat) (m := 4294967295) l (by omega) (by omega)
  unfold refR
  rw [List.append_assoc, a1]
  simp only
  rw [a2]
  simp only
  rw [Int.toNat_of_nonneg h1.1, Int.toNat_of_nonneg h2.1]
theorem refsR_put {l : List Rf} (h : ∀ r ∈ l, r.u32) (rest : List Int) : ∀ k, k ≤ l.length → refsR ⟨refsBy l ++ rest, 0⟩ k = (l.take k, ⟨refsBy (l.drop k) ++ rest, 0⟩)
  | 0, _ => by simp [refsR]
  | k + 1, hk => by
    have ih := refsR_put h rest k (by omega)
    have hlt : k < l.length := hk
    have e : refsBy (l.drop k) = (sevens l[k].o.toNat ++ sevens l[k].v.toNat) ++ refsBy (l.drop (k + 1)) := by
      rw [List.drop_eq_getElem_cons hlt]; rfl
    unfold refsR
    rw [ih, e, List.append_assoc, refR_put (h _ (List.getElem_mem hlt))]
    simp only
    rw [List.take_succ_eq_append_getElem hlt]
def Ev.part (e : Ev) : Pt := ⟨{ e with b := blanks e.b, a := blanks e.a }, hoL e.b, hoL e.a⟩
theorem body_put {e : Ev} {l : List Rl} {ver : Int} (h : evE e l = 0) (hk : 4 ≤ e.kind ∧ e.kind ≤ 7) (hv : ver = 1 ∨ ver = 2) (ho : 0 ≤ e.old) (hb : ∀ c ∈ e.b, c.tw) (ha : ∀ c ∈ e.a, c.tw) (hr : ∀ r ∈ e.rs, r.u32) (hat : (⟨e.ao, e.av⟩ : Rf).u32) :
    bodyE e.kind l ver ⟨recPay e l ver, 0⟩ = (e.part, ⟨[], 0⟩) := by
  unfold bodyE recPay
  by_cases h7 : e.kind = 7
  · rw [if_pos h7, if_pos h7]
    obtain ⟨h1, h2, h3, h4, h5, h6, h8, -⟩ := ev_trunc h h7
    have e64 : (2 : Nat) ^ 64 = 18446744073709551616 := by decide
    unfold truncR
    rw [List.cons_append, byteR_cons]
    simp only
    have h9 := uintR_sevens (x := e.rs.length) (m := 8) (refsBy e.rs) (by omega) (by omega)
    rw [h9]
    simp only
    have h10 := refsR_put hr [] e.rs.length (Nat.le_refl _)
    rw [List.append_nil] at h10
    rw [h10, List.take_length, List.drop_length]
    unfold Ev.part
    obtain ⟨kind, ao, av, old, b, a, rs, fl⟩ := e
    simp only at h7 h3 h4 h5 h6 h8 ⊢
    subst h7 h3 h4 h5 h6 h8
    rfl
  · rw [if_neg h7, if_neg h7]
    obtain ⟨r, hg, hok⟩ := ev_ok h h7 ho
    have hc : colsOf e l = r.cols := by unfold colsOf; rw [hg]
    rw [hc]
    unfold rowsR evPay evHead
    have h1 := refR_put hat ((if e.kind = 4 then [] else [e.old]) ++ (imgPay e.b r.cols ver ++ imgPay e.a r.cols ver))
    simp only at h1
    rw [List.append_assoc, h1]
    simp only
    rw [hg]
    simp only
    unfold rowR
    have h2 : oldR e.kind ⟨(if e.kind = 4 then [] else [e.old]) ++ (imgPay e.b r.cols ver ++ imgPay e.a r.cols ver), 0⟩ = (e.old, ⟨imgPay e.b r.cols ver ++ imgPay e.a r.cols ver, 0⟩) := by
      unfold oldR
      by_cases h4 : e.kind = 4
      · rw [if_pos h4, if_pos h4, hok.ins h4, List.nil_append]
      · rw [if_neg h4, if_neg h4, List.singleton_append, byteR_cons]
    rw [h2]
    simp only
    have h3 : capR e.old ⟨imgPay e.b r.cols ver ++ imgPay e.a r.cols ver, 0⟩ = ⟨imgPay e.b r.cols ver ++ imgPay e.a r.cols ver, 0⟩ := by
      unfold capR; rw [if_neg (by have := hok.old; omega)]
    rw [h3]
    have h4 : befR r ver e.old ⟨imgPay e.b r.cols ver ++ imgPay e.a r.cols ver, 0⟩ = ((blanks e.b, hoL e.b), ⟨imgPay e.a r.cols ver, 0⟩) := by
      unfold befR
      by_cases h0 : e.old = 0
      · rw [if_pos h0, hok.b0 h0, imgPay_nil]; rfl
      · have hf := hok.b h0
        rw [if_neg h0]
        conv => lhs; arg 3; unfold imgPay
        rw [if_neg (fits_ne hf)]
        exact takeT_put hf hv hb _
    rw [h4]
    simp only
    have h5 : aftR r ver e.kind ⟨imgPay e.a r.cols ver, 0⟩ = ((blanks e.a, hoL e.a), ⟨[], 0⟩) := by
      unfold aftR
      by_cases h6 : e.kind = 6
      · rw [if_pos h6, hok.a6 h6, imgPay_nil]; rfl
      · have hf := hok.a h6
        rw [if_neg h6]
        unfold imgPay
        rw [if_neg (fits_ne hf)]
        have := takeT_put hf hv ha []
        rw [List.append_nil] at this
        exact this
    rw [h5]
    have h6 := hok.rs
    have h8 := hok.fl
    unfold Ev.part
    obtain ⟨kind, ao, av, old, b, a, rs, fl⟩ := e
    simp only at h6 h8 ⊢
    rw [h6, h8]
theorem Mn.ref : Mn refR := (Mn.uint 4294967295).bind (g := fun (x : Nat) (st : RS) => ((⟨(x : Nat), ((uintR 4294967295 st).1 : Nat)⟩ : Rf), (uintR 4294967295 st).2)) fun x => (Mn.uint 4294967295).map fun y => (⟨(x : Nat), (y : Nat)⟩ : Rf)
theorem Mn.refs : ∀ k, Mn (fun st => refsR st k)
  | 0 => Mn.pure _
  | k + 1 => (Mn.refs k).bind (g := fun (a : List Rf) (st : RS) => (a ++ [(refR st).1], (refR st).2)) fun a => Mn.ref.map fun r => a ++ [r]
theorem Mn.old (kind : Int) : Mn (oldR kind) := by unfold oldR; exact Mn.ite (Mn.pure 0) Mn.byte
theorem Mn.cap (old : Int) : Mn (fun st => ((), capR old st)) := by
  unfold capR
  exact Mn.of (g := fun st => if 2 < old then ((), giveS st 14) else ((), st)) (fun st => by split <;> rfl) (Mn.ite (Mn.give () (by decide)) (Mn.pure ()))
theorem Mn.bef (r : Rl) (ver old : Int) : Mn (befR r ver old) := by unfold befR; exact Mn.ite (Mn.pure _) (Mn.row r ver)
theorem Mn.aft (r : Rl) (ver kind : Int) : Mn (aftR r ver kind) := by unfold aftR; exact Mn.ite (Mn.pure _) (Mn.row r ver)
theorem Mn.rowP (kind ver : Int) (a : Rf) (r : Rl) : Mn (rowR kind ver a r) := by
  unfold rowR
  refine (Mn.old kind).bind (g := fun (o : Int) (st : RS) => let b := befR r ver o (capR o st); let c := aftR r ver kind b.2; ((⟨⟨kind, a.o, a.v, o, b.1.1, c.1.1, [], 0⟩, b.1.2, c.1.2⟩ : Pt), c.2)) fun o => ?_
  refine (Mn.cap o).bind (g := fun (_ : Unit) (st : RS) => let b := befR r ver o st; let c := aftR r ver kind b.2; ((⟨⟨kind, a.o, a.v, o, b.1.1, c.1.1, [], 0⟩, b.1.2, c.1.2⟩ : Pt), c.2)) fun _ => ?_
  refine (Mn.bef r ver o).bind (g := fun (b : List K × List Ho) (st : RS) => let c := aftR r ver kind st; ((⟨⟨kind, a.o, a.v, o, b.1, c.1.1, [], 0⟩, b.2, c.1.2⟩ : Pt), c.2)) fun b => ?_
  exact (Mn.aft r ver kind).map fun c => (⟨⟨kind, a.o, a.v, o, b.1, c.1, [], 0⟩, b.2, c.2⟩ : Pt)
def sizesP (p : Pt) : List Int := p.hb.map Ho.n ++ p.ha.map Ho.n
def textsP (p : Pt) (ps : List ByteArray) : List ByteArray := joinT ps ((sizesP p).map Int.toNat)
def fillPE (p : Pt) (ps : List ByteArray) : Int :=
  if joinE ps (sizesP p) ≠ 0 then joinE ps (sizesP p)
  else if fillE p.e.b p.hb ((textsP p ps).take p.hb.length) ≠ 0 then fillE p.e.b p.hb ((textsP p ps).take p.hb.length)
  else fillE p.e.a p.ha ((textsP p ps).drop p.hb.length)
def fillPV (p : Pt) (ps : List ByteArray) : Ev :=
  if fillPE p ps = 0 then { p.e with b := fillUp p.e.b p.hb ((textsP p ps).take p.hb.length) p.hb.length, a := fillUp p.e.a p.ha ((textsP p ps).drop p.hb.length) p.ha.length } else Ev.zero
theorem fillPE_zero {p : Pt} {ps : List ByteArray} (h : fillPE p ps = 0) : joinE ps (sizesP p) = 0 ∧ fillE p.e.b p.hb ((textsP p ps).take p.hb.length) = 0 ∧ fillE p.e.a p.ha ((textsP p ps).drop p.hb.length) = 0 := by
  unfold fillPE at h
  by_cases h1 : joinE ps (sizesP p) = 0
  · rw [if_neg (by simpa using h1)] at h
    by_cases h2 : fillE p.e.b p.hb ((textsP p ps).take p.hb.length) = 0
    · rw [if_neg (by simpa using h2)] at h
      exact ⟨h1, h2, h⟩
    · rw [if_pos h2] at h; exact absurd h h2
  · rw [if_pos h1] at h; exact absurd h h1
theorem joinE_zero {ps : List ByteArray} {ns : List Int} (h : joinE ps ns = 0) : (∀ n ∈ ns, 0 ≤ n ∧ n ≤ 2048) ∧ ps.map ByteArray.size = lensL (ns.map Int.toNat) := by
  unfold joinE at h
  split at h
  · cases h
  rename_i h1
  split at h
  · rename_i h2
    refine ⟨fun n hn => ?_, h2⟩
    have h3 : ns.any (fun n => decide (n < 0 ∨ 2048 < n)) = false := by simpa using h1
    rw [List.any_eq_false] at h3
    have := h3 n hn
    simp only [decide_eq_true_eq] at this
    omega
  · cases h
theorem fillE_zero {l : List K} {hs : List Ho} {ts : List ByteArray} (h : fillE l hs ts = 0) : hs.length = ts.length ∧ FitO hs ts ∧ ∀ o ∈ hs, 0 ≤ o.c ∧ o.c < l.length := by
  unfold fillE at h
  split at h
  · cases h
  rename_i h1
  split at h
  · cases h
  rename_i h2
  split at h
  · cases h
  rename_i h3
  have h1 : hs.length = ts.length := Classical.not_not.1 h1
  refine ⟨h1, fun j hj => ?_, fun o ho => ?_⟩
  · have h4 := firstE_all (Classical.not_not.1 h3) j hj
    unfold sizeBad at h4
    have hj2 : j < ts.length := by omega
    rw [dif_pos ⟨hj, hj2⟩] at h4
    refine ⟨hj2, Classical.byContradiction fun q => ?_⟩
    rw [if_pos q] at h4; cases h4
  · obtain ⟨j, hj, rfl⟩ := List.getElem_of_mem ho
    have h4 := firstE_all (Classical.not_not.1 h2) j hj
    unfold holeBad at h4
    rw [dif_pos hj] at h4
    split at h4
    · cases h4
    · omega
theorem refR_inv {b l : List Int} {r : Rf} (hb : isB b) (h : refR ⟨b, 0⟩ = (r, ⟨l, 0⟩)) : b = (sevens r.o.toNat ++ sevens r.v.toNat) ++ l ∧ isB l ∧ r.u32 := by
  unfold refR at h
  simp only [Prod.mk.injEq] at h
  obtain ⟨h1, h2⟩ := h
  have he : (uintR 4294967295 ⟨b, 0⟩).2.e = 0 := uintR_e (by rw [h2])
  obtain ⟨x, S, hx⟩ : ∃ x S, uintR 4294967295 ⟨b, 0⟩ = (x, S) := ⟨_, _, rfl⟩
  rw [hx] at h1 h2 he
  simp only at h1 h2 he
  obtain ⟨L, rfl⟩ : ∃ L, S = ⟨L, 0⟩ := ⟨_, RS.eta S he⟩
  obtain ⟨y, T, hy⟩ : ∃ y T, uintR 4294967295 ⟨L, 0⟩ = (y, T) := ⟨_, _, rfl⟩
  rw [hy] at h1 h2
  simp only at h1 h2
  subst h2 h1
  obtain ⟨i1, i2, i3⟩ := uintR_inv hb hx
  have hL : isB L := fun z hz => hb z (by rw [i1]; exact List.mem_append.2 (.inr hz))
  obtain ⟨j1, j2, j3⟩ := uintR_inv hL hy
  refine ⟨by simp only [Int.toNat_natCast]; rw [i1, j1, List.append_assoc], fun z hz => hL z (by rw [j1]; exact List.mem_append.2 (.inr hz)), ⟨by show (0 : Int) ≤ (x : Int) ∧ (x : Int) < 4294967296; omega, by show (0 : Int) ≤ (y : Int) ∧ (y : Int) < 4294967296; omega⟩⟩
theorem refsR_inv {b : List Int} (hb : isB b) : ∀ k, (refsR ⟨b, 0⟩ k).2.e = 0 → b = refsBy (refsR ⟨b, 0⟩ k).1 ++ (refsR ⟨b, 0⟩ k).2.l ∧ isB (refsR ⟨b, 0⟩ k).2.l ∧ ∀ r ∈ (refsR ⟨b, 0⟩ k).1, r.u32
  | 0, _ => ⟨rfl, hb, fun r hr => by cases hr⟩
  | k + 1, h => by
    have he : (refsR ⟨b, 0⟩ k).2.e = 0 := Classical.byContradiction fun q => by
      have := Mn.ref.keep _ q
      unfold refsR at h
      simp only at h
      exact q (this ▸ h)
    obtain ⟨h1, h2, h3⟩ := refsR_inv hb k he
    unfold refsR at h ⊢
    simp only at h ⊢
    obtain ⟨r, S, hr⟩ : ∃ r S, refR (refsR ⟨b, 0⟩ k).2 = (r, S) := ⟨_, _, rfl⟩
    rw [hr] at h ⊢
    simp only at h ⊢
    obtain ⟨L, rfl⟩ : ∃ L, S = ⟨L, 0⟩ := ⟨_, RS.eta S h⟩
    rw [RS.eta _ he] at hr
    obtain ⟨j1, j2, j3⟩ := refR_inv h2 hr
    refine ⟨?_, j2, fun x hx => ?_⟩
    · conv => lhs; rw [h1, j1]
      rw [refsBy_snoc]
      simp only [List.append_assoc]
    · rcases List.mem_append.1 hx with hx | hx
      · exact h3 x hx
      · obtain rfl : x = r := by simpa using hx
        exact j3
theorem endE_zero {S : RS} (h : endE S = 0) : S = ⟨[], 0⟩ := by
  unfold endE at h
  split at h
  · cases h
  rename_i h1
  have h2 : S.l = [] := Classical.byContradiction fun q => h1 ⟨h, q⟩
  obtain ⟨l, e⟩ := S
  simp only at h h2
  rw [h, h2]
theorem part_row {r : Rl} {ver : Int} {b rest : List Int} (hb : isB b) {M : List K} {O : List Ho} (h : takeT r ver ⟨b, 0⟩ = ((M, O), ⟨rest, 0⟩)) {ts : List ByteArray} (hf : fillE M O ts = 0) :
    isB rest ∧ b = imgPay (fillUp M O ts O.length) r.cols ver ++ rest ∧ txL (fillUp M O ts O.length) = ts ∧ (∀ c ∈ fillUp M O ts O.length, c.tw) := by
  obtain ⟨h1, h2, -⟩ := fillE_zero hf
  obtain ⟨-, k1, kr, F, k2, k3, k4, -, k6, k7, -⟩ := takeT_fill hb h ts h1.symm h2
  have hne : F ≠ [] := fun e => by
    have hc : 1 ≤ r.cols.length := by unfold Rl.right at kr; (repeat' split at kr) <;> first | omega | (exfalso; omega)
    rw [e] at k7
    simp only [List.length_nil] at k7
    omega
  rw [k2]
  refine ⟨k1, ?_, k4, k6⟩
  unfold imgPay
  rw [if_neg hne]; exact k3
theorem part_inv {l : List Rl} {kind ver : Int} {b : List Int} {ps : List ByteArray} (hb : isB b) (h : takeEE l kind b ver = 0) (hf : fillPE (takeEP l kind b ver) ps = 0) :
    recPay (fillPV (takeEP l kind b ver) ps) l ver = b ∧ recTx (fillPV (takeEP l kind b ver) ps) = ps ∧ (ver = 1 ∨ ver = 2) ∧ (fillPV (takeEP l kind b ver) ps).tw ∧ 0 ≤ (fillPV (takeEP l kind b ver) ps).old := by
  have hP : takeEP l kind b ver = (bodyE kind l ver ⟨b, 0⟩).1 := by unfold takeEP; rw [if_pos h]
  have hV : fillPV (takeEP l kind b ver) ps = _ := if_pos hf
  obtain ⟨f1, f2, f3⟩ := fillPE_zero hf
  obtain ⟨g1, g2⟩ := joinE_zero f1
  unfold takeEE at h
  split at h
  · cases h
  rename_i hkd
  split at h
  case isFalse => cases h
  rename_i hv
  have hS := endE_zero h
  obtain ⟨p, hp⟩ : ∃ p, p = (bodyE kind l ver ⟨b, 0⟩).1 := ⟨_, rfl⟩
  have hB : bodyE kind l ver ⟨b, 0⟩ = (p, ⟨[], 0⟩) := Prod.ext hp.symm hS
  rw [hP, ← hp] at hV f2 f3 g1 g2 ⊢
  rw [hV]
  clear hP hV hf f1 h hS hp
  unfold bodyE at hB
  by_cases h7 : kind = 7
  · rw [if_pos h7] at hB
    unfold truncR at hB
    simp only [Prod.mk.injEq] at hB
    obtain ⟨h1, h2⟩ := hB
    have he3 : (uintR 8 (byteR ⟨b, 0⟩).2).2.e = 0 := Classical.byContradiction fun q => by
      have := (Mn.refs (uintR 8 (byteR ⟨b, 0⟩).2).1).keep _ q
      rw [h2] at this
      exact q this.symm
    have he2 : (byteR ⟨b, 0⟩).2.e = 0 := uintR_e he3
    cases b with
    | nil => exact absurd he2 (by decide)
    | cons x L =>
      rw [byteR_cons] at h1 h2 he3
      simp only at h1 h2 he3
      have hL : isB L := fun z hz => hb z (List.mem_cons_of_mem _ hz)
      obtain ⟨n, S, hn⟩ : ∃ n S, uintR 8 ⟨L, 0⟩ = (n, S) := ⟨_, _, rfl⟩
      rw [hn] at h1 h2 he3
      simp only at h1 h2 he3
      obtain ⟨L2, rfl⟩ : ∃ L, S = ⟨L, 0⟩ := ⟨_, RS.eta S he3⟩
      obtain ⟨i1, i2, i3⟩ := uintR_inv hL hn
      have hL2 : isB L2 := fun z hz => hL z (by rw [i1]; exact List.mem_append.2 (.inr hz))
      obtain ⟨j1, -, j3⟩ := refsR_inv hL2 n (by rw [h2])
      rw [h2] at j1
      simp only [List.append_nil] at j1
      have hlen := refsR_len ⟨L2, 0⟩ n
      subst h1
      simp only at f2 f3 g2 ⊢
      have hps : ps = [] := by
        have : ps.map ByteArray.size = [] := g2
        simpa using this
      subst hps
      refine ⟨?_, rfl, hv, ⟨fun c hc => by simp [fillUp] at hc, fun c hc => by simp [fillUp] at hc, j3, ⟨⟨Int.le_refl _, by simp⟩, ⟨Int.le_refl _, by simp⟩⟩⟩, Int.le_refl _⟩
      unfold recPay
      rw [if_pos rfl]
      simp only
      rw [hlen, ← j1, i1]; rfl
  · rw [if_neg h7] at hB
    unfold rowsR at hB
    have heR : (refR ⟨b, 0⟩).2.e = 0 := Classical.byContradiction fun q => by
      cases hg : getR (refR ⟨b, 0⟩).1.o (refR ⟨b, 0⟩).1.v l with
      | none =>
        rw [hg] at hB
        have := congrArg (fun z => z.2.e) hB
        simp only [giveS_gave 10 q] at this
        exact q this
      | some r =>
        rw [hg] at hB
        have h1 := (Mn.rowP kind ver (refR ⟨b, 0⟩).1 r).keep _ q
        simp only at hB
        rw [hB] at h1
        exact q h1.symm
    obtain ⟨a, S, ha⟩ : ∃ a S, refR ⟨b, 0⟩ = (a, S) := ⟨_, _, rfl⟩
    rw [ha] at hB heR
    simp only at hB heR
    obtain ⟨L, rfl⟩ : ∃ L, S = ⟨L, 0⟩ := ⟨_, RS.eta S heR⟩
    obtain ⟨r1, hL, r3⟩ := refR_inv hb ha
    cases hg : getR a.o a.v l with
    | none =>
      rw [hg] at hB
      have := congrArg (fun z => z.2.e) hB
      exact absurd this (giveS_e (by decide))
    | some r =>
    rw [hg] at hB
    simp only at hB
    unfold rowR at hB
    simp only [Prod.mk.injEq] at hB
    obtain ⟨h1, h2⟩ := hB
    have e3 : (befR r ver (oldR kind ⟨L, 0⟩).1 (capR (oldR kind ⟨L, 0⟩).1 (oldR kind ⟨L, 0⟩).2)).2.e = 0 := Classical.byContradiction fun q => by
      have := (Mn.aft r ver kind).keep _ q
      rw [h2] at this
      exact q this.symm
    have e2 : (capR (oldR kind ⟨L, 0⟩).1 (oldR kind ⟨L, 0⟩).2).e = 0 := Classical.byContradiction fun q => by
      have := (Mn.bef r ver (oldR kind ⟨L, 0⟩).1).keep _ q
      exact q (this ▸ e3)
    have e1 : (oldR kind ⟨L, 0⟩).2.e = 0 := Classical.byContradiction fun q => by
      have := (Mn.cap (oldR kind ⟨L, 0⟩).1).keep _ q
      exact q (this ▸ e2)
    obtain ⟨old, S1, hold⟩ : ∃ o S, oldR kind ⟨L, 0⟩ = (o, S) := ⟨_, _, rfl⟩
    rw [hold] at h1 h2 e3 e2 e1
    simp only at h1 h2 e3 e2 e1
    obtain ⟨L1, rfl⟩ : ∃ L, S1 = ⟨L, 0⟩ := ⟨_, RS.eta S1 e1⟩
    have hold2 : L = (if kind = 4 then [] else [old]) ++ L1 ∧ (kind = 4 → old = 0) := by
      unfold oldR at hold
      by_cases h4 : kind = 4
      · rw [if_pos h4] at hold ⊢
        simp only [Prod.mk.injEq, RS.mk.injEq] at hold
        exact ⟨hold.2.1, fun _ => hold.1.symm⟩
      · rw [if_neg h4] at hold ⊢
        refine ⟨?_, fun q => absurd q h4⟩
        cases L with
        | nil => rw [show byteR ⟨[], 0⟩ = (0, ⟨[], 1⟩) from rfl] at hold; simp only [Prod.mk.injEq, RS.mk.injEq] at hold; exact absurd hold.2.2 (by decide)
        | cons z L => rw [byteR_cons] at hold; simp only [Prod.mk.injEq, RS.mk.injEq] at hold; rw [hold.1, hold.2.1]; rfl
    have hL1 : isB L1 := fun z hz => hL z (by rw [hold2.1]; exact List.mem_append.2 (.inr hz))
    have hcap : capR old ⟨L1, 0⟩ = ⟨L1, 0⟩ := by
      unfold capR at e2 ⊢
      by_cases h2' : 2 < old
      · rw [if_pos h2'] at e2; exact absurd e2 (giveS_e (by decide))
      · rw [if_neg h2']
    rw [hcap] at h1 h2 e3
    obtain ⟨⟨M, O⟩, S2, hbef⟩ : ∃ x S, befR r ver old ⟨L1, 0⟩ = (x, S) := ⟨_, _, rfl⟩
    rw [hbef] at h1 h2 e3
    simp only at h1 h2 e3
    obtain ⟨L2, rfl⟩ : ∃ L, S2 = ⟨L, 0⟩ := ⟨_, RS.eta S2 e3⟩
    obtain ⟨⟨M2, O2⟩, S3, haft⟩ : ∃ x S, aftR r ver kind ⟨L2, 0⟩ = (x, S) := ⟨_, _, rfl⟩
    rw [haft] at h1 h2
    simp only at h1 h2
    subst h2 h1
    simp only at f2 f3 g2 ⊢
    obtain ⟨T, hT⟩ : ∃ T, T = textsP ⟨⟨kind, a.o, a.v, old, M, M2, [], 0⟩, O, O2⟩ ps := ⟨_, rfl⟩
    rw [← hT] at f2 f3 ⊢
    have hB1 : isB L2 ∧ L1 = imgPay (fillUp M O (T.take O.length) O.length) r.cols ver ++ L2 ∧ txL (fillUp M O (T.take O.length) O.length) = T.take O.length ∧ (∀ c ∈ fillUp M O (T.take O.length) O.length, c.tw) := by
      unfold befR at hbef
      by_cases h0 : old = 0
      · rw [if_pos h0] at hbef
        simp only [Prod.mk.injEq, RS.mk.injEq] at hbef
        obtain ⟨⟨rfl, rfl⟩, rfl, -⟩ := hbef
        exact ⟨hL1, rfl, rfl, fun c hc => by cases hc⟩
      · rw [if_neg h0] at hbef
        exact part_row hL1 hbef f2
    have hB2 : L2 = imgPay (fillUp M2 O2 (T.drop O.length) O2.length) r.cols ver ++ [] ∧ txL (fillUp M2 O2 (T.drop O.length) O2.length) = T.drop O.length ∧ (∀ c ∈ fillUp M2 O2 (T.drop O.length) O2.length, c.tw) := by
      unfold aftR at haft
      by_cases h0 : kind = 6
      · rw [if_pos h0] at haft
        simp only [Prod.mk.injEq, RS.mk.injEq] at haft
        obtain ⟨⟨rfl, rfl⟩, rfl, -⟩ := haft
        refine ⟨rfl, ?_, fun c hc => by cases hc⟩
        have := (fillE_zero f3).1
        simp only [List.length_nil] at this
        rw [List.eq_nil_of_length_eq_zero this.symm]; rfl
      · rw [if_neg h0] at haft
        exact (part_row hB1.1 haft f3).2
    have hold3 : 0 ≤ old := by
      by_cases h4 : kind = 4
      · exact Int.le_of_eq (hold2.2 h4).symm
      · have h5 := hold2.1
        rw [if_neg h4] at h5
        exact (hL old (by rw [h5]; simp)).1
    refine ⟨?_, ?_, hv, ⟨hB1.2.2.2, hB2.2.2, fun _ h => (by cases h), r3⟩, hold3⟩
    · unfold recPay
      rw [if_neg h7]
      unfold evPay evHead colsOf
      simp only
      rw [hg]
      simp only
      rw [r1, hold2.1, hB1.2.1, hB2.1, List.append_nil, List.append_assoc, List.append_assoc]
    · unfold recTx
      rw [if_neg h7]
      simp only
      rw [hB1.2.2.1, hB2.2.1, List.take_append_drop, hT]
      exact split_join _ _ g2
theorem tx_sizes {l : List K} (_h : True) : (hoL l).map Ho.n = (txL l).map fun s => (s.size : Int) := by
  unfold hoL txL
  rw [List.map_map, List.map_map]
  rfl
theorem part_fill {e : Ev} (hb : e.b = [] ∨ ∃ r, fitsE e.b r = 0) (ha : e.a = [] ∨ ∃ r, fitsE e.a r = 0) (h7 : e.kind = 7 → e.b = [] ∧ e.a = []) (hsb : ∀ c ∈ e.b, c.tw) (hsa : ∀ c ∈ e.a, c.tw) :
    fillPE e.part (recTx e) = 0 ∧ fillPV e.part (recTx e) = e ∧ lensL ((sizesP e.part).map Int.toNat) = (recTx e).map ByteArray.size := by
  have hst : sizesP e.part = (txL e.b ++ txL e.a).map fun s => (s.size : Int) := by
    unfold sizesP Ev.part
    simp only
    rw [tx_sizes trivial, tx_sizes trivial, List.map_append]
  have hsn : (sizesP e.part).map Int.toNat = (txL e.b ++ txL e.a).map ByteArray.size := by
    rw [hst, List.map_map]
    refine List.map_congr_left (fun s _ => ?_)
    simp
  have hrt : recTx e = splitL (txL e.b ++ txL e.a) := by
    unfold recTx
    split
    · rename_i h
      obtain ⟨h1, h2⟩ := h7 h
      rw [h1, h2]; rfl
    · rfl
  have hT : textsP e.part (recTx e) = txL e.b ++ txL e.a := by
    unfold textsP
    rw [hsn, hrt]; exact join_split _
  have hsz : ∀ s ∈ txL e.b ++ txL e.a, s.size ≤ 2048 := by
    have key : ∀ (l : List K), (l = [] ∨ ∃ r, fitsE l r = 0) → ∀ s ∈ txL l, s.size ≤ 2048 := by
      intro l hl s hs
      unfold txL at hs
      rw [List.mem_map] at hs
      obtain ⟨x, hx, rfl⟩ := hs
      obtain ⟨-, hi, hL, hxs⟩ := larges_mem l.length x hx
      rcases hl with rfl | ⟨r, hr⟩
      · simp at hi
      · obtain ⟨-, h1, h2⟩ := fitsW_zero hr
        have h3 := h2 x.1 hi (by omega)
        unfold K.right at h3
        have h4 := hL
        unfold largeB at h4
        rw [decide_eq_true_eq] at h4
        rw [h4.1] at h3
        rw [hxs]
        exact (right_zero (right_full h3).1).2.2.1
    intro s hs
    rcases List.mem_append.1 hs with hs | hs
    · exact key e.b hb s hs
    · exact key e.a ha s hs
  have hJ : joinE (recTx e) (sizesP e.part) = 0 := by
    unfold joinE
    rw [if_neg, if_pos (by rw [hsn, hrt]; exact split_sizes _)]
    rw [hst]
    simp only [List.any_map, List.any_eq_true, Function.comp_def, decide_eq_true_eq, not_exists, not_and]
    intro s hs
    have := hsz s hs
    omega
  have hlb : e.part.hb.length = (txL e.b).length := by
    show (hoL e.b).length = _
    rw [hoL_len, txL_len]
  have hTb : (textsP e.part (recTx e)).take e.part.hb.length = txL e.b := by rw [hT, hlb, List.take_left]
  have hTa : (textsP e.part (recTx e)).drop e.part.hb.length = txL e.a := by rw [hT, hlb, List.drop_left]
  have hfb : fillE (blanks e.b) (hoL e.b) (txL e.b) = 0 ∧ fillUp (blanks e.b) (hoL e.b) (txL e.b) (hoL e.b).length = e.b := by
    rcases hb with h0 | ⟨r, hr⟩
    · rw [h0]; exact ⟨rfl, rfl⟩
    · have h := fill_put hr hsb
      refine ⟨h.1, ?_⟩
      have h2 := h.2
      unfold fillW at h2
      rw [if_pos h.1] at h2
      exact h2
  have hfa : fillE (blanks e.a) (hoL e.a) (txL e.a) = 0 ∧ fillUp (blanks e.a) (hoL e.a) (txL e.a) (hoL e.a).length = e.a := by
    rcases ha with h0 | ⟨r, hr⟩
    · rw [h0]; exact ⟨rfl, rfl⟩
    · have h := fill_put hr hsa
      refine ⟨h.1, ?_⟩
      have h2 := h.2
      unfold fillW at h2
      rw [if_pos h.1] at h2
      exact h2
  have hE : fillPE e.part (recTx e) = 0 := by
    unfold fillPE
    rw [if_neg (by simpa using hJ), hTb, hTa, if_neg (fun q => q hfb.1)]
    exact hfa.1
  refine ⟨hE, ?_, ?_⟩
  · unfold fillPV
    rw [if_pos hE, hTb, hTa]
    have h1 := hfb.2
    have h2 := hfa.2
    unfold Ev.part
    simp only
    rw [h1, h2]
  · exact (joinE_zero hJ).2.symm
end Go.Proofs.YtjnafppkbhldlaaGreat
