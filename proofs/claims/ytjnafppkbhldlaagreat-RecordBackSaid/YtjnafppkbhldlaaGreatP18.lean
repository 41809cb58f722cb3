/-
Texts of pieces, in plain words.
-/
import Derived.Test.YtjnafppkbhldlaaGreatP17
set_option maxRecDepth 100000
set_option maxHeartbeats 16000000
namespace Go.Proofs.YtjnafppkbhldlaaGreat
open Go.RowKit
def catL (l : List ByteArray) : ByteArray := ⟨((l.map fun s => s.data.toList).flatten).toArray⟩
theorem bytes_ext {a b : ByteArray} (h : a.data.toList = b.data.toList) : a = b := ByteArray.ext (Array.toList_inj.1 h)
theorem catL_list (l : List ByteArray) : (catL l).data.toList = (l.map fun s => s.data.toList).flatten := by unfold catL; simp
theorem app_list (a b : ByteArray) : (a ++ b).data.toList = a.data.toList ++ b.data.toList := by rw [ByteArray.data_append, Array.toList_append]
theorem catL_append (l m : List ByteArray) : catL (l ++ m) = catL l ++ catL m := bytes_ext (by rw [app_list, catL_list, catL_list, catL_list]; simp)
theorem catL_one (s : ByteArray) : catL [s] = s := bytes_ext (by rw [catL_list]; simp)
theorem catL_snoc (l : List ByteArray) (s : ByteArray) : catL (l ++ [s]) = catL l ++ s := by rw [catL_append, catL_one]
theorem size_list (s : ByteArray) : s.size = s.data.toList.length := by rw [Array.length_toList]; rfl
theorem catL_size (l : List ByteArray) : (catL l).size = (l.map ByteArray.size).sum := by
  induction l with
  | nil => rfl
  | cons s l ih =>
    have h : catL (s :: l) = catL [s] ++ catL l := by rw [← catL_append]; rfl
    rw [h, ByteArray.size_append, ih, catL_one, List.map_cons, List.sum_cons]
theorem ext_list (s : ByteArray) (i j : Nat) : (s.extract i j).data.toList = (s.data.toList.take j).drop i := by rw [ByteArray.data_extract, Array.toList_extract, List.extract_eq_take_drop, List.drop_take]
theorem ext_mid (a b c : ByteArray) : (a ++ (b ++ c)).extract a.size (a.size + b.size) = b := bytes_ext (by
  rw [ext_list, app_list, app_list, List.drop_take, size_list, List.drop_left, Nat.add_sub_cancel_left, size_list, List.take_left])
def nOf (n : Nat) : Nat := (n + 255) / 256
def lenAt (n i : Nat) : Nat := min 256 (n - 256 * i)
def lens1 (n : Nat) : List Nat := (List.range (nOf n)).map (lenAt n)
def lensL (ns : List Nat) : List Nat := (ns.map lens1).flatten
def sumN (ns : List Nat) : Nat := (ns.map nOf).sum
theorem lens1_len (n : Nat) : (lens1 n).length = nOf n := by simp [lens1]
theorem lensL_cons (n : Nat) (ns : List Nat) : lensL (n :: ns) = lens1 n ++ lensL ns := by simp [lensL]
theorem sumN_cons (n : Nat) (ns : List Nat) : sumN (n :: ns) = nOf n + sumN ns := by simp [sumN]
theorem lensL_len : ∀ ns : List Nat, (lensL ns).length = sumN ns
  | [] => rfl
  | n :: ns => by rw [lensL_cons, List.length_append, lens1_len, lensL_len ns, sumN_cons]
theorem sumN_take {ns : List Nat} {k : Nat} (hk : k < ns.length) : sumN (ns.take (k + 1)) = sumN (ns.take k) + nOf ns[k] := by
  unfold sumN
  rw [List.take_succ_eq_append_getElem hk, List.map_append, List.sum_append, List.map_cons, List.map_nil, List.sum_cons, List.sum_nil, Nat.add_zero]
theorem lens1_at {n i : Nat} (h : i < nOf n) : (lens1 n)[i]? = some (lenAt n i) := by
  unfold lens1
  rw [List.getElem?_map, List.getElem?_range h]; rfl
theorem lensL_at : ∀ {ns : List Nat} {k i : Nat} (hk : k < ns.length), i < nOf ns[k] → (lensL ns)[sumN (ns.take k) + i]? = some (lenAt ns[k] i)
  | n :: ns, 0, i, _, h => by
    rw [lensL_cons, List.take_zero]
    simp only [List.getElem_cons_zero] at h ⊢
    rw [show sumN [] + i = i by simp [sumN], List.getElem?_append_left (by rw [lens1_len]; exact h), lens1_at h]
  | n :: ns, k + 1, i, hk, h => by
    simp only [List.getElem_cons_succ] at h ⊢
    rw [lensL_cons, List.take_succ_cons, sumN_cons, List.getElem?_append_right (by rw [lens1_len]; omega), lens1_len, show nOf n + sumN (ns.take k) + i - nOf n = sumN (ns.take k) + i by omega]
    exact lensL_at (by simpa using hk) h
theorem lenAt_pos {n i : Nat} (h : i < nOf n) : 0 < lenAt n i := by unfold nOf at h; unfold lenAt; omega
theorem lenAt_sum (n : Nat) : ∀ i, i ≤ nOf n → ((List.range i).map (lenAt n)).sum = min (256 * i) n
  | 0, _ => by simp
  | i + 1, h => by
    have ih := lenAt_sum n i (by omega)
    have h1 : i < nOf n := h
    unfold nOf at h1
    rw [List.range_succ, List.map_append, List.sum_append, ih]
    simp only [List.map_cons, List.map_nil, List.sum_cons, List.sum_nil, lenAt]
    omega
def joinE (ps : List ByteArray) (ns : List Int) : Int := if ns.any (fun n => decide (n < 0 ∨ 2048 < n)) then 4 else if ps.map ByteArray.size = lensL (ns.map Int.toNat) then 0 else 16
def joinT : List ByteArray → List Nat → List ByteArray
  | _, [] => []
  | ps, n :: ns => catL (ps.take (nOf n)) :: joinT (ps.drop (nOf n)) ns
def joinW (ps : List ByteArray) (ns : List Int) : List ByteArray := if joinE ps ns = 0 then joinT ps (ns.map Int.toNat) else []
theorem joinT_len : ∀ (ps : List ByteArray) (ns : List Nat), (joinT ps ns).length = ns.length
  | _, [] => rfl
  | ps, n :: ns => by simp [joinT, joinT_len _ ns]
theorem joinT_take : ∀ {ns : List Nat} {k : Nat} (hk : k < ns.length) (ps : List ByteArray), joinT ps (ns.take (k + 1)) = joinT ps (ns.take k) ++ [catL ((ps.drop (sumN (ns.take k))).take (nOf ns[k]))]
  | n :: ns, 0, _, ps => by simp [joinT, sumN]
  | n :: ns, k + 1, hk, ps => by
    have ih := joinT_take (ns := ns) (k := k) (by simpa using hk) (ps.drop (nOf n))
    simp only [List.take_succ_cons, joinT, List.getElem_cons_succ, List.cons_append]
    rw [ih, sumN_cons, List.drop_drop]
theorem front_size {qs : List ByteArray} {n : Nat} (h : qs.map ByteArray.size = lens1 n) {i : Nat} (hi : i ≤ nOf n) : (catL (qs.take i)).size = min (256 * i) n := by
  have e : (qs.take i).map ByteArray.size = (List.range i).map (lenAt n) := by
    rw [List.map_take, h]
    unfold lens1
    rw [← List.map_take, List.take_range, Nat.min_eq_left hi]
  rw [catL_size, e, lenAt_sum n i hi]
theorem sizes_len {qs : List ByteArray} {ns : List Nat} (h : qs.map ByteArray.size = ns) : qs.length = ns.length := by rw [← h, List.length_map]
theorem front_all {qs : List ByteArray} {n : Nat} (h : qs.map ByteArray.size = lens1 n) : (catL qs).size = n := by
  have hl := sizes_len h
  rw [lens1_len] at hl
  have := front_size h (Nat.le_refl _)
  rw [← hl, List.take_length] at this
  rw [this, hl]; unfold nOf; omega
theorem sizes_cut {ps : List ByteArray} {n : Nat} {ns : List Nat} (h : ps.map ByteArray.size = lensL (n :: ns)) : (ps.take (nOf n)).map ByteArray.size = lens1 n ∧ (ps.drop (nOf n)).map ByteArray.size = lensL ns := by
  rw [lensL_cons] at h
  rw [List.map_take, List.map_drop, h, ← lens1_len n, List.take_left, List.drop_left]
  exact ⟨rfl, rfl⟩
theorem pcs_range (s : ByteArray) : pcs s = (List.range (nPc s)).map (pc s) := by
  rw [← pcs_front, frontUp_map _ _ _ (Nat.le_refl _)]
theorem pc_size {s : ByteArray} {i : Nat} (h : i < nPc s) : (pc s i).size = lenAt s.size i := by
  unfold nPc at h
  unfold pc lenAt
  rw [ByteArray.size_extract]; omega
theorem pcs_sizes (s : ByteArray) : (pcs s).map ByteArray.size = lens1 s.size := by
  rw [pcs_range, List.map_map]
  unfold lens1
  rw [show nOf s.size = nPc s from rfl]
  refine List.map_congr_left (fun j hj => ?_)
  exact pc_size (List.mem_range.1 hj)
theorem splitL_cons (s : ByteArray) (ts : List ByteArray) : splitL (s :: ts) = pcs s ++ splitL ts := by simp [splitL]
theorem split_sizes : ∀ ts : List ByteArray, (splitL ts).map ByteArray.size = lensL (ts.map ByteArray.size)
  | [] => rfl
  | s :: ts => by rw [splitL_cons, List.map_append, pcs_sizes, split_sizes ts, List.map_cons, lensL_cons]
theorem pcs_cat_to (s : ByteArray) : ∀ k, k ≤ nPc s → catL ((List.range k).map (pc s)) = s.extract 0 (min (256 * k) s.size)
  | 0, _ => bytes_ext (by rw [ext_list, catL_list]; simp)
  | k + 1, h => by
    have hn : nPc s = (s.size + 255) / 256 := rfl
    rw [List.range_succ, List.map_append, List.map_cons, List.map_nil, catL_snoc, pcs_cat_to s k (by omega)]
    refine bytes_ext ?_
    unfold pc
    rw [app_list, ext_list, ext_list, ext_list, show min (256 * k) s.size = 256 * k by omega, List.drop_zero, List.drop_zero, show min (256 * k + 256) s.size = min (256 * (k + 1)) s.size by omega]
    have e := List.take_append_drop (256 * k) (s.data.toList.take (min (256 * (k + 1)) s.size))
    rw [List.take_take, show min (256 * k) (min (256 * (k + 1)) s.size) = 256 * k by omega] at e
    exact e
theorem pcs_cat (s : ByteArray) : catL (pcs s) = s := by
  rw [pcs_range, pcs_cat_to s _ (Nat.le_refl _)]
  have hn : nPc s = (s.size + 255) / 256 := rfl
  rw [show min (256 * nPc s) s.size = s.size by omega]
  exact ByteArray.extract_zero_size
theorem pcs_len (s : ByteArray) : (pcs s).length = nOf s.size := by rw [pcs_range]; simp [nPc, nOf]
theorem join_split : ∀ ts : List ByteArray, joinT (splitL ts) (ts.map ByteArray.size) = ts
  | [] => rfl
  | s :: ts => by
    rw [splitL_cons, List.map_cons]
    unfold joinT
    rw [← pcs_len s, List.take_left, List.drop_left, pcs_cat, join_split ts]
theorem pcs_of {qs : List ByteArray} {n : Nat} (h : qs.map ByteArray.size = lens1 n) : pcs (catL qs) = qs := by
  have hl := sizes_len h
  rw [lens1_len] at hl
  have hs := front_all h
  apply List.ext_getElem
  · rw [pcs_len, hs, hl]
  · intro i h1 h2
    have hi : i < nOf n := by rw [← hl]; exact h2
    have hsz : qs[i].size = lenAt n i := by
      have := lens1_at hi
      rw [← h, List.getElem?_map, List.getElem?_eq_getElem h2] at this
      exact Option.some.inj this
    have h3 := front_size h (i := i) (by omega)
    have hi2 := hi
    unfold nOf at hi2
    have h4 : (catL (qs.take i)).size = 256 * i := by rw [h3]; omega
    have e : catL qs = catL (qs.take i) ++ (qs[i] ++ catL (qs.drop (i + 1))) := by
      conv => lhs; rw [← List.take_append_drop i qs, List.drop_eq_getElem_cons h2]
      rw [catL_append, show qs[i] :: qs.drop (i + 1) = [qs[i]] ++ qs.drop (i + 1) from rfl, catL_append, catL_one]
    have h5 : i < ((List.range (nPc (catL qs))).map (pc (catL qs))).length := by rw [← pcs_range]; exact h1
    have e2 : (pcs (catL qs))[i] = pc (catL qs) i := by
      have : (pcs (catL qs))[i]? = some (pc (catL qs) i) := by
        rw [pcs_range, List.getElem?_map, List.getElem?_range (by simpa using h5)]; rfl
      rw [List.getElem?_eq_getElem h1] at this
      exact Option.some.inj this
    rw [e2]
    unfold pc
    rw [hs, show min (256 * i + 256) n = 256 * i + qs[i].size by rw [hsz]; unfold lenAt; omega, ← h4]
    have := ext_mid (catL (qs.take i)) qs[i] (catL (qs.drop (i + 1)))
    rwa [← e] at this
theorem split_join : ∀ (ns : List Nat) (ps : List ByteArray), ps.map ByteArray.size = lensL ns → splitL (joinT ps ns) = ps
  | [], ps, h => by
    have : ps.length = 0 := by have := sizes_len h; simpa [lensL] using this
    rw [List.eq_nil_of_length_eq_zero this]; rfl
  | n :: ns, ps, h => by
    obtain ⟨h1, h2⟩ := sizes_cut h
    unfold joinT
    rw [splitL_cons, pcs_of h1, split_join ns _ h2, List.take_append_drop]
theorem join_sizes : ∀ (ns : List Nat) (ps : List ByteArray), ps.map ByteArray.size = lensL ns → (joinT ps ns).map ByteArray.size = ns
  | [], _, _ => rfl
  | n :: ns, ps, h => by
    obtain ⟨h1, h2⟩ := sizes_cut h
    unfold joinT
    rw [List.map_cons, front_all h1, join_sizes ns _ h2]
def Mat (ps : List ByteArray) (l : List Nat) (p : Nat) : Prop := ∀ q, q < p → ∃ h : q < ps.length, l[q]? = some ps[q].size
theorem Mat.zero (ps : List ByteArray) (l : List Nat) : Mat ps l 0 := fun _ h => absurd h (Nat.not_lt_zero _)
theorem Mat.succ {ps : List ByteArray} {l : List Nat} {p : Nat} (h : Mat ps l p) (hp : p < ps.length) (he : l[p]? = some ps[p].size) : Mat ps l (p + 1) := fun q hq => by
  by_cases e : q = p
  · subst e; exact ⟨hp, he⟩
  · exact h q (by omega)
theorem Mat.all {ps : List ByteArray} {l : List Nat} (h : Mat ps l l.length) (hl : ps.length = l.length) : ps.map ByteArray.size = l := by
  apply List.ext_getElem
  · rw [List.length_map, hl]
  · intro i h1 h2
    obtain ⟨h3, h4⟩ := h i h2
    rw [List.getElem?_eq_getElem h2] at h4
    rw [List.getElem_map]
    exact (Option.some.inj h4).symm
theorem split_len : ∀ {ts : List ByteArray}, (∀ s ∈ ts, s.size ≤ 2048) → (splitL ts).length ≤ ts.length * 8
  | [], _ => Nat.le_refl _
  | s :: ts, h => by
    have ih := split_len (ts := ts) (fun x hx => h x (List.mem_cons_of_mem _ hx))
    have h1 := h s (by simp)
    rw [splitL_cons, List.length_append, pcs_len, List.length_cons]
    unfold nOf
    omega
theorem texts_own (ls : List K) (a : Option Addr) (cap : Nat) (w : World) (hl : Sl w (.slice a ls.length cap) 5 (ls.map K.pc)) (hlen : ls.length ≤ 1000) :
    Calls Tryz.prog 118 #[.slice a ls.length cap] w fun e W' => ∃ a' cap', e = .returned (.slice a' (txL ls).length cap') ∧ W'.ownsRow w.heap.size 9 1 (.slice a' (txL ls).length cap') (txL ls).length ((txL ls).map strC).flatten ∧ Ext w W' := by
  refine (callsIn_wide.1 (texts_in 3 (Nat.le_refl _) ls a cap w hl hlen)).mono ?_
  rintro e W' ⟨v, rfl, ho, hE⟩
  obtain ⟨a', c', rfl⟩ := owns_shape ho
  rw [txL_len, txL_cells]
  exact ⟨a', c', rfl, ho, hE⟩
theorem run_app_sl {P : Program} {w : World} (t ty : TypeId) (base : Nat) (e : TypeId) (i : TypeInfo) (z : Value) (size bytes : Nat) (ht : P.underlying t = some (.slice e)) (hi : P.info? e = some i) (hz : i.zero = some z)
    (hsize : i.size = size) (hby : i.bytes = bytes) (hzs : z.cells.size = size) (hsz : 0 < size)
    (v : Value) (n : Nat) (xs : List Value) (hown : w.ownsRow base e size v n xs) (u : Value) (xss : List (List Value)) (hu : Sl w u size xss)
    (hk : ∀ ys ∈ xss, ys.length = size) (h1 : ∀ y ∈ xss.flatten, y.oneCell' = true) (h63 : n + xss.length ≤ maxLen) (hbytes : (n + xss.length) * bytes ≤ 140737488355328) (hbase : base ≤ w.heap.size) :
    ∃ v' w', (Builtin.append_ #[t, t] ty #[v, u]).run P w = .ok v' w' ∧ w'.ownsRow base e size v' (n + xss.length) (xs ++ xss.flatten) ∧ w.grownBy w' v.ownBlock ∧ (v'.ownBlock = v.ownBlock ∨ v'.ownBlock = some w.heap.size) := by
  obtain ⟨A, cap, rfl, hcs⟩ := hu
  rcases A with _ | ad
  · have h0 : xss = [] := by
      rcases hcs with h | ⟨b, o, e, _⟩
      · exact h
      · cases e
    subst h0
    exact ⟨v, w, run_app_nil base t ty e i size ht hi v n xs hown cap, by simpa using hown, ⟨rfl, rfl, rfl, Nat.le_refl _, fun _ _ _ => rfl⟩, .inl rfl⟩
  · have hn : ∀ j u, xss.flatten[j]? = some u → w.cell? (ad.add j) = some u := by
      rcases hcs with h | ⟨b, o', e', _, hc⟩
      · subst h; intro j u hj; simp at hj
      · cases e'
        exact news_sl hsz hk hc
    obtain ⟨v', w', hr, h2, h3, _, h5⟩ := run_append_own_at (P := P) w base t ty e i z size bytes ht hi hz hsize hby hzs hsz v n xs hown ad xss.length cap xss.flatten (flat_length size xss hk) hn h1 h63 hbytes hbase
    exact ⟨v', w', hr, h2, h3, h5⟩
theorem wp_app_sl {P : Program} {w : World} {o : Oper} {a : Act} {K : Act → World → Prop} {Q : Exit → Act → World → Prop} (s x : Operand) (t : TypeId)
    (ho : o.op = .call { callee := .builtin .append, args := #[s, x], argTypes := #[t, t] })
    (base : Nat) (e : TypeId) (i : TypeInfo) (z : Value) (size bytes : Nat) (ht : P.underlying t = some (.slice e)) (hi : P.info? e = some i) (hz : i.zero = some z)
    (hsize : i.size = size) (hby : i.bytes = bytes) (hzs : z.cells.size = size) (hsz : 0 < size)
    (v : Value) (n : Nat) (xs : List Value) (hs : a.eval s = v) (hown : w.ownsRow base e size v n xs) (u : Value) (xss : List (List Value)) (hx : a.eval x = u) (hu : Sl w u size xss)
    (hk : ∀ ys ∈ xss, ys.length = size) (h1 : ∀ y ∈ xss.flatten, y.oneCell' = true) (h63 : n + xss.length ≤ maxLen) (hbytes : (n + xss.length) * bytes ≤ 140737488355328) (hbase : base ≤ w.heap.size)
    (h : ∀ v' w', w'.ownsRow base e size v' (n + xss.length) (xs ++ xss.flatten) → w.grownBy w' v.ownBlock → (v'.ownBlock = v.ownBlock ∨ v'.ownBlock = some w.heap.size) → K (a.put o.dst v') w') : o.wp P a w K Q := by
  obtain ⟨v', w', hrun, h2, h3, h4⟩ := run_app_sl (P := P) t o.type base e i z size bytes ht hi hz hsize hby hzs hsz v n xs hown u xss hu hk h1 h63 hbytes hbase
  unfold Oper.wp execOp
  simp only [ho, resolve, invoke, builtin, Sem.run_bind, Sem.run_pure, Result.andThen_ok, List.map_toArray, List.map_cons, List.map_nil, hs, hx, hrun]
  exact h v' w' h2 h3 h4
theorem strC_one {xs : List ByteArray} : ∀ ys ∈ xs.map strC, ys.length = 1 := by intro ys hys; simp at hys; obtain ⟨_, _, rfl⟩ := hys; rfl
theorem strC_cells {xs : List ByteArray} : ∀ y ∈ (xs.map strC).flatten, y.oneCell' = true := by
  intro y hy
  simp only [List.mem_flatten, List.mem_map] at hy
  obtain ⟨l, ⟨s, -, rfl⟩, hy⟩ := hy
  simp [strC] at hy; subst hy; rfl
theorem owns_neT {w : World} {b1 b2 s1 s2 n1 n2 : Nat} {e1 e2 : TypeId} {v1 v2 : Value} {x1 x2 : List Value} (h1 : w.ownsRow b1 e1 s1 v1 n1 x1) (h2 : w.ownsRow b2 e2 s2 v2 n2 x2) (ht : e1 ≠ e2) : ∀ b, v1.ownBlock = some b → v2.ownBlock ≠ some b := by
  intro b hb1 hb2
  rcases h1.2 with ⟨rfl, -⟩ | ⟨g, cap, cur, rfl, -, hh, -⟩
  · cases hb1
  rcases h2.2 with ⟨rfl, -⟩ | ⟨g2, cap2, cur2, rfl, -, hh2, -⟩
  · cases hb2
  simp only [Value.ownBlock, Option.some.injEq] at hb1 hb2
  subst hb1; subst hb2
  rw [hh] at hh2
  simp only [Option.some.injEq, Obj.cells.injEq] at hh2
  exact ht hh2.2.1
def RecPostC (x : Ev) (cols : List Col) (ver : Int) (w : World) (e : Ending) (w' : World) : Prop :=
  ∃ v' a' c', e = .returned (.tuple #[v', .slice a' (splitL (txL x.b ++ txL x.a)).length c', .int .i64 0]) ∧ OB w' w.heap.size v' (evPay x cols ver) ∧ Sl w' (.slice a' (splitL (txL x.b ++ txL x.a)).length c') 1 ((splitL (txL x.b ++ txL x.a)).map strC) ∧ Ext w w' ∧ ((splitL (txL x.b ++ txL x.a)).length ≤ c' ∧ c' ≤ maxLen)
theorem recputr_any (x : EL) (version : Int) (r : Rl) (N g : Nat) (c : Value) (ps : List RR) (w : World) (hx : x.at 5 K.pc w) (hs : x.e.small) (hwk : x.e.wk) (hc : Ca w N g c ps) (hz : evE x.e (ps.map RR.r) = 0) (hg : getR x.e.ao x.e.av (ps.map RR.r) = some r) (hok : EvOk x.e r)
    (hb : ∀ c ∈ x.e.b, c.tw) (ha : ∀ c ∈ x.e.a, c.tw) (hat : (⟨x.e.ao, x.e.av⟩ : Rf).u32) (hv : version = 1 ∨ version = 2) :
    Calls Tryz.prog 53 #[.pointer (some ⟨g, 0, none⟩), x.agg, .int .u8 version] w (RecPostC x.e r.cols version w) := by
  have HRG := Hm (fun W (h : Ext w W) => eright_any x N g c ps W (hx.ext h) hs hwk (hc.ext h))
  rw [hz] at HRG
  have HGI := Hm (fun W (h : Ext w W) => cget_is (hc.ext h) hg)
  have hfac : r.nm.size ≤ 9223372036854775807 ∧ (∀ c ∈ r.cols, c.nm.size ≤ 9223372036854775807) ∧ r.cols.length ≤ 1000 := by
    obtain ⟨p, hp, hpr⟩ := List.mem_map.1 (getR_some hg).1
    have hwb := hc.wb p hp
    have hn16 := hc.n16 hp
    rw [hpr] at hwb hn16
    exact ⟨hwb.nm, hwb.cs, by omega⟩
  obtain ⟨hnm, hs2, hlen2⟩ := hfac
  have htx := tx_ok hok
  have hpc := split_len htx.1
  have HEL := Hm (evHead_len hat)
  have HOK := Hm hok
  have HXB := Hm hx.b
  have HXA := Hm hx.a
  obtain ⟨oid, ver, nm, id, cols⟩ := r
  obtain ⟨⟨kind, ao, av, old, b, a, rs, fl⟩, ba, bc, aa, ac, ra, rc⟩ := x
  unfold EL.agg at HRG ⊢
  have hnb := hs.b
  have hna := hs.a
  have hkd := hok.kind
  clear hx hs hwk hc hz hg
  simp only at HRG HGI HXB HXA hok hb ha hat hnm hs2 hlen2 htx hpc hnb hna hkd HEL HOK ⊢
  have HBT := Hm hb
  have HAT := Hm ha
  have HTX := Hm htx
  have HPC := Hm hpc
  have HSM := Hm (And.intro hnm hs2)
  have HFB : Hid (b = [] ∨ fitsE b (⟨oid, ver, nm, id, cols⟩ : Rl) = 0) := Hm (by
    by_cases h0 : old = 0
    · exact .inl (hok.b0 h0)
    · exact .inr (hok.b h0))
  have HFA : Hid (a = [] ∨ fitsE a (⟨oid, ver, nm, id, cols⟩ : Rl) = 0) := Hm (by
    by_cases h0 : kind = 6
    · exact .inl (hok.a6 h0)
    · exact .inr (hok.a h0))
  have HTB := Hm (fun W (h : Ext w W) => texts_own b ba bc W (HXB.out.ext h) hnb)
  have HTA := Hm (fun W (h : Ext w W) => texts_own a aa ac W (HXA.out.ext h) hna)
  have HPR := Hm (fun W => putRefI_any (.slice none 0 0) [] ⟨ao, av⟩ W ⟨none, 0, rfl, .inl rfl⟩ (by simp) hat)
  simp only [List.nil_append] at HPR
  have h7 : (kind == 7) = false := by simp; omega
  have h7' : (kind != 7) = true := by simp; omega
  have HV := Hm hv
  obtain ⟨i0, hi, hz0, hz1, hz2⟩ := info_parts Tryz.infoStrS
  obtain ⟨TT, hTT⟩ : ∃ T, T = txL b ++ txL a := ⟨_, rfl⟩
  have HTT := Hm hTT
  rw [← hTT] at HTX HPC
  clear hTT
  clear hok hb ha hat hkd htx hpc hnm hs2
  have hv1 : (version < 1) = False := by rcases hv with rfl | rfl <;> simp
  have hv2 : (2 < version) = False := by rcases hv with rfl | rfl <;> simp
  have hd1 : decide (version < 1) = false := by simp [hv1]
  have hd2 : decide (2 < version) = false := by simp [hv2]
  clear hv1 hv2 hv
  go_enter Tryz.func53, Tryz.ntmps53
  go_upto_region 14 with (go_at_call 68; refine (HRG.out _ (by exact eX)).mono ?_; rintro e w1 ⟨rfl, hb1⟩; have HE1 := Hm (((Ext.refl w).alloc _).trans hb1); have HV1 := Hm ((Blk.new w #[.int .u8 kind, .int .u32 ao, .int .u32 av, .int .u8 old, .slice ba b.length bc, .slice aa a.length ac, .slice ra rs.length rc, .int .u8 fl] 120).ext hb1); have gv := HV1.out.cell; have zv := HV1.out.lt; clear hb1)
  go_cut [13] (fun p wx => ∃ X qa qc, p = .pointer (some ⟨X, 0, none⟩) ∧ Hid (Blk wx X #[.int .u32 oid, .int .u32 ver, .string nm, .int .u8 id, .slice qa cols.length qc] 174) ∧ Hid (Sl wx (.slice qa cols.length qc) 3 (cols.map Col.cells)) ∧ Hid (cols.length ≤ qc) ∧ Hid (Ext w1 wx))
  case first =>
    go_wp2_with (go_at_call 92; refine (HGI.out _ HE1.out).mono ?_; rintro e w2 ⟨⟨qr, qa, qc⟩, rfl, hqr, hqo, hb2⟩; simp only at hqr; subst hqr; have HQO := Hm hqo; have HB2 := Hm hb2; clear hqo hb2 gv zv; (try simp only))
    go_meet
    case rel =>
      exact ⟨_, qa, qc, rfl, Hm (Blk.new _ _ _), Hm (HQO.out.in.ext ((Ext.refl _).alloc _)), Hm (owns_cap HQO.out), Hm (HB2.out.alloc _)⟩
  case rest =>
  obtain ⟨X, qa, qc, rfl, HBX, HQS, HQC, HEX⟩ := hcut
  have gv := (HV1.out.ext HEX.out).cell
  have zv := (HV1.out.ext HEX.out).lt
  have HEQ := Hm (HE1.out.trans HEX.out)
  have HV2 := Hm (HV1.out.ext HEX.out)
  obtain ⟨wq, hwq⟩ : ∃ x, x = wc := ⟨_, rfl⟩
  subst hwq
  clear HE1 HV1 HEX HGI HRG
  go_upto_if 65 with (go_at_call 117; refine (HPR.out _).mono ?_; rintro e w4 ⟨v4, rfl, ho4, hb4⟩; have HO4 := Hm ho4; have HB4 := Hm hb4; have HV4 := Hm (HV2.out.ext hb4); clear ho4 hb4 gv zv; have gv := HV4.out.cell; have zv := HV4.out.lt)
  go_cut [15] (fun v wx => Hid (OB wx wq.heap.size v (evHead (⟨kind, ao, av, old, b, a, rs, fl⟩ : Ev))) ∧ Hid (Ext wq wx))
  case first =>
    by_cases h4 : kind = 4
    · have h4' : (kind != 4) = false := by simpa using h4
      have HH : Hid (OB w4 wq.heap.size v4 (evHead (⟨kind, ao, av, old, b, a, rs, fl⟩ : Ev))) := Hm (by unfold evHead; rw [if_pos h4, List.append_nil]; exact HO4.out)
      obtain ⟨a4, c4, rfl⟩ := HH.out.shape
      clear h4
      go_wp2
      go_meet
      case rel => exact ⟨HH, HB4⟩
    · have h4' : (kind != 4) = true := by simpa using h4
      have HHE : Hid (evHead (⟨kind, ao, av, old, b, a, rs, fl⟩ : Ev) = (sevens ao.toNat ++ sevens av.toNat) ++ [old]) := Hm (by unfold evHead; rw [if_neg h4])
      have HSN := Hm (Sl.new w4 #[.int .u8 old] 5 1 1 1 ([old].map bcell) rfl (by intro xs hxs; simp at hxs; subst hxs; rfl) rfl)
      clear h4
      go_wp2_with (at_builtin; refine app_bytes_at rfl _ _ rfl wq.heap.size v4 _ rfl (HO4.out.ext ((Ext.refl w4).alloc _)) _ [old] rfl HSN.out ?c1 ?c2 ?_)
      case c1 => have h1 := HEL.out; rw [HHE.out, List.length_append] at h1; simp only [List.length_cons, List.length_nil] at h1 ⊢; omega
      case c2 => have := HB4.out.size; simp; omega
      intro v5 w5 ho5 hg5 _
      have HH : Hid (OB w5 wq.heap.size v5 (evHead (⟨kind, ao, av, old, b, a, rs, fl⟩ : Ev))) := Hm (by rw [HHE.out]; first | exact ho5 | (rw [List.append_assoc]; exact ho5))
      have HB5 : Hid (Ext wq w5) := Hm (OB.grown (HB4.out.alloc _) (HO4.out.ext ((Ext.refl w4).alloc _)) hg5)
      obtain ⟨a5, c5, rfl⟩ := HH.out.shape
      clear ho5 hg5
      go_wp2
      go_meet
      case rel => exact ⟨HH, HB5⟩
  case rest =>
  obtain ⟨HO5, HB5⟩ := hcut
  obtain ⟨ab, cb, rfl⟩ := HO5.out.shape
  obtain ⟨vB, hvB⟩ : ∃ v, v = Value.slice ab (evHead (⟨kind, ao, av, old, b, a, rs, fl⟩ : Ev)).length cb := ⟨_, rfl⟩
  rw [← hvB] at HO5 ⊢
  have HVB := Hm hvB
  clear hvB gv zv HO4 HB4 HV4
  have HV5 := Hm (HV2.out.ext HB5.out)
  have HX5 := Hm (HBX.out.ext HB5.out)
  have HS : Hid (∀ w', Ext wc w' → ((∀ i, w'.cell? ⟨w.heap.size, i, none⟩ = (#[.int .u8 kind, .int .u32 ao, .int .u32 av, .int .u8 old, .slice ba b.length bc, .slice aa a.length ac, .slice ra rs.length rc, .int .u8 fl])[i]?) ∧ w.heap.size < w'.heap.size)) := Hm (fun w' h => ⟨(HV5.out.ext h).cell, (HV5.out.ext h).lt⟩)
  have hA0 : Hid ((fun w' => (∀ i, w'.cell? ⟨w.heap.size, i, none⟩ = (#[.int .u8 kind, .int .u32 ao, .int .u32 av, .int .u8 old, .slice ba b.length bc, .slice aa a.length ac, .slice ra rs.length rc, .int .u8 fl])[i]?) ∧ w.heap.size < w'.heap.size) wc.drew) := Hm (HS.out _ (Ext.refl wc).drew)
  go_upto_region 18 with (fail)
  refine wp_region_head 7 (fun w' => (∀ i, w'.cell? ⟨w.heap.size, i, none⟩ = (#[.int .u8 kind, .int .u32 ao, .int .u32 av, .int .u8 old, .slice ba b.length bc, .slice aa a.length ac, .slice ra rs.length rc, .int .u8 fl])[i]?) ∧ w.heap.size < w'.heap.size) (by kernel_rfl) (by decide) ?_
  (refine wpHd_take (i := 0) (v := ?_) rfl (by kernel_rfl) (by kernel_rfl) (by kernel_rfl) (fun _ _ _ h => h) (Or.inl ⟨by rfl, ?_⟩) hA0.out ?_; rotate_left 1; · (intro w' hS'; (try dsimp only at hS'); go_split_ands; go_simp; try with_reducible rfl))
  (refine wpHd_take (i := 1) (v := ?_) rfl (by kernel_rfl) (by kernel_rfl) (by kernel_rfl) (fun _ _ _ h => h) (Or.inl ⟨by rfl, ?_⟩) hA0.out ?_; rotate_left 1; · (intro w' hS'; (try dsimp only at hS'); go_split_ands; go_simp; try with_reducible rfl))
  (refine wpHd_take (i := 3) (v := ?_) rfl (by kernel_rfl) (by kernel_rfl) (by kernel_rfl) (fun _ _ _ h => h) (Or.inl ⟨by rfl, ?_⟩) hA0.out ?_; rotate_left 1; · (intro w' hS'; (try dsimp only at hS'); go_split_ands; go_simp; try with_reducible rfl))
  (refine wpHd_take (i := 4) (v := ?_) rfl (by kernel_rfl) (by kernel_rfl) (by kernel_rfl) (fun _ _ _ h => h) (Or.inl ⟨by rfl, ?_⟩) hA0.out ?_; rotate_left 1; · (intro w' hS'; (try dsimp only at hS'); go_split_ands; go_simp; try with_reducible rfl))
  refine wpHd_one (i := 2) rfl rfl (by kernel_rfl) (fun K hK => ?_)
  go_simp
  refine (HTB.out _ (HEQ.out.trans (HB5.out.trans (Ext.refl wc).drew))).mono ?_
  rintro e w5 ⟨a5, c5, rfl, ho5, hb5⟩
  have HO6 := Hm ho5
  have HB6 : Hid (Ext wc w5) := Hm ((Ext.refl wc).drew.trans hb5)
  refine hK.out _ _ (HS.out _ HB6.out) (fun hA => ?_)
  clear hK K hA hA0 ho5 hb5
  refine wpHd_one (i := 5) rfl rfl (by kernel_rfl) (fun K hK => ?_)
  go_simp
  refine (HTA.out _ (HEQ.out.trans (HB5.out.trans HB6.out))).mono ?_
  rintro e w6 ⟨a6, c6, rfl, ho6, hb6⟩
  have HO7 := Hm ho6
  have HX6 := Hm hb6
  have HB7 : Hid (Ext wc w6) := Hm (HB6.out.trans hb6)
  refine hK.out _ _ (HS.out _ HB7.out) (fun hA => ?_)
  clear hK K hA ho6 hb6
  refine wpHd_one (i := 6) rfl rfl (by kernel_rfl) (fun K hK => ?_)
  refine wp_app_sl _ _ 115 (by rfl) wc.heap.size 9 i0 _ 1 16 Tryz.underlying115 hi hz0 hz1 hz2 rfl (by decide) (.slice a5 (txL b).length c5) _ _ (by rfl) (owns_ext HO6.out HX6.out) (.slice a6 (txL a).length c6) ((txL a).map strC) (by rfl) (Sl.of_owns (base := w5.heap.size) (e := 9) (by rw [List.length_map]; exact HO7.out) strC_one) strC_one strC_cells ?c1 ?c2 ?c3 ?_
  case c1 => have h1 := HTX.out.2; rw [HTT.out, List.length_append] at h1; rw [List.length_map]; unfold maxLen; omega
  case c2 => have h1 := HTX.out.2; rw [HTT.out, List.length_append] at h1; rw [List.length_map]; omega
  case c3 => have := HB7.out.size; omega
  intro v7 w7 ho7 hg7 hat7
  have HO8 : Hid (w7.ownsRow wc.heap.size 9 1 v7 TT.length (TT.map strC).flatten) := Hm (by have hT := HTT.out; subst hT; rw [List.length_append, List.map_append, List.flatten_append]; rw [List.length_map] at ho7; exact ho7)
  have HB8 : Hid (Ext wc w7) := Hm (Ext.grown HB7.out (owns_ext HO6.out HX6.out) hg7)
  refine hK.out _ _ (HS.out _ HB8.out) (fun hA => ?_)
  clear hK K hA ho7 hg7 hat7
  obtain ⟨a7, c7, rfl⟩ := owns_shape HO8.out
  refine wpHd_tail (by kernel_rfl) ?_
  simp only [List.drop_succ_cons, List.drop_zero]
  have gv := (HV5.out.ext HB8.out).cell
  have zv := (HV5.out.ext HB8.out).lt
  have gx := (HX5.out.ext HB8.out).cell
  have zx := (HX5.out.ext HB8.out).lt
  have HEr := Hm (HB5.out.trans HB8.out)
  have HPW := Hm (putRows_any b a ba aa bc ac w7.heap.size vB (evHead (⟨kind, ao, av, old, b, a, rs, fl⟩ : Ev)) oid ver nm id cols qa qc version wq (w7.alloc (.cells #[.slice ba b.length bc, .slice aa a.length ac] 97)) (HEr.out.alloc _) (HO5.out.ext (HB8.out.alloc _)) (Blk.new _ _ _) (HXB.out.ext HEQ.out) (HXA.out.ext HEQ.out) HQS.out HQC.out hlen2 HSM.out.2 HSM.out.1 HFB.out HFA.out HV.out HBT.out HAT.out hnb hna (by have := HEL.out; omega))
  have HSPL := Hm (fun W (h : Sl W (.slice a7 TT.length c7) 1 (TT.map strC)) => callsIn_wide.1 (split_in Fence.wide 4 rfl trivial trivial trivial rfl (Nat.le_refl _) TT a7 c7 W h (by have := HTX.out.2; omega) (fun s hs => by have := HTX.out.1 s hs; omega) (by have := HPC.out; have := HTX.out.2; omega)))
  have HNE : Hid (∀ k, (Value.slice a7 TT.length c7).ownBlock = some k → ¬ (vB.ownBlock = some k)) := Hm (owns_neT HO8.out (HO5.out.ext HB8.out) (by decide))
  obtain ⟨L8, hL8⟩ : ∃ L, L = evHead (⟨kind, ao, av, old, b, a, rs, fl⟩ : Ev) ++ (imgPay b cols version ++ imgPay a cols version) := ⟨_, rfl⟩
  rw [← hL8] at HPW
  have HL8 := Hm hL8
  obtain ⟨TS, hTS⟩ : ∃ T, T = splitL TT := ⟨_, rfl⟩
  rw [← hTS] at HSPL
  have HTS := Hm hTS
  clear HO6 HO7 HX6 HB7 HB6 HS HTB HTA HV5 HX5 HV2 HBX HQS HQC hL8 hTS
  go_wp2_with (first
    | (go_at_call 119; refine HPW.out.mono ?_; rintro e w8 ⟨v8, rfl, ho8, hk8⟩; obtain ⟨a8, c8, rfl⟩ := OB.shape ho8; have HO9 := Hm ho8; have HK9 := Hm hk8; clear ho8 hk8 gv zv gx zx)
    | (go_at_call 120; refine (HSPL.out _ (Sl.of_owns (base := wc.heap.size) (e := 9) (by rw [List.length_map]; exact owns_kp (owns_ext HO8.out ((Ext.refl _).alloc _)) HK9.out HNE.out) strC_one)).mono ?_; rintro e w9 ⟨a9, c9, rfl, hs9, hb9, hc9⟩; have HC9 := Hm hc9; clear hc9; have HS9 := Hm hs9; have HB9 := Hm hb9; clear hs9 hb9))
  go_ret3
  have hL := HL8.out
  have hT := HTS.out
  subst hL
  have hU := HTT.out
  subst hU
  subst hT
  exact ⟨_, a9, c9, rfl, (HO9.out.ext HB9.out).base HEQ.out.size, HS9.out, HEQ.out.trans ((Kp.ext (HEr.out.alloc _) (fun x hx _ => (HO5.out.lt x hx).1) HK9.out).trans HB9.out), HC9.out⟩
structure Ev.tw (e : Ev) : Prop where
  b : ∀ c ∈ e.b, c.tw
  a : ∀ c ∈ e.a, c.tw
  r : ∀ r ∈ e.rs, r.u32
  at_ : (⟨e.ao, e.av⟩ : Rf).u32
def RecPutC (B : List Int) (T : List ByteArray) (E : Int) (w : World) (e : Ending) (w' : World) : Prop :=
  ∃ a c a' c', e = .returned (.tuple #[.slice a B.length c, .slice a' T.length c', .int .i64 E]) ∧ OB w' w.heap.size (.slice a B.length c) B ∧ Sl w' (.slice a' T.length c') 1 (T.map strC) ∧ Ext w w' ∧ (T.length ≤ c' ∧ c' ≤ maxLen)
theorem Sl.none0 (W : World) (k : Nat) : Sl W (.slice none 0 0) k [] := ⟨none, 0, rfl, .inl rfl⟩
theorem recputv_any (x : EL) (ver : Int) (g : Nat) (w : World) (hv : ¬ (ver = 1 ∨ ver = 2)) (_h0 : 0 ≤ ver) :
    Calls Tryz.prog 53 #[.pointer (some ⟨g, 0, none⟩), x.agg, .int .u8 ver] w (RecPutC [] [] 18 w) := by
  obtain ⟨⟨kind, ao, av, old, b, a, rs, fl⟩, ba, bc, aa, ac, ra, rc⟩ := x
  unfold EL.agg
  simp only
  by_cases h1 : ver < 1
  · have hd : decide (ver < 1) = true := by simpa using h1
    go_enter Tryz.func53, Tryz.ntmps53
    go_wp2
    go_ret3
    exact ⟨_, _, _, _, rfl, OB.nil _ _, Sl.none0 _ _, by exact eX, Nat.le_refl _, Nat.zero_le _⟩
  · have h2 : 2 < ver := by omega
    have hd1 : decide (ver < 1) = false := by simpa using h1
    have hd2 : decide (2 < ver) = true := by simpa using h2
    go_enter Tryz.func53, Tryz.ntmps53
    go_wp2
    go_ret3
    exact ⟨_, _, _, _, rfl, OB.nil _ _, Sl.none0 _ _, by exact eX, Nat.le_refl _, Nat.zero_le _⟩
theorem recpute_any (x : EL) (ver : Int) (N g : Nat) (c : Value) (ps : List RR) (w : World) (hx : x.at 5 K.pc w) (hs : x.e.small) (hwk : x.e.wk) (hc : Ca w N g c ps) (hz : evE x.e (ps.map RR.r) ≠ 0) (hv : ver = 1 ∨ ver = 2) :
    Calls Tryz.prog 53 #[.pointer (some ⟨g, 0, none⟩), x.agg, .int .u8 ver] w (RecPutC [] [] (evE x.e (ps.map RR.r)) w) := by
  have HRG := Hm (fun W (h : Ext w W) => eright_any x N g c ps W (hx.ext h) hs hwk (hc.ext h))
  clear hx hs hwk hc
  obtain ⟨⟨kind, ao, av, old, b, a, rs, fl⟩, ba, bc, aa, ac, ra, rc⟩ := x
  unfold EL.agg at HRG ⊢
  simp only at HRG ⊢
  generalize evE _ _ = E at HRG hz ⊢
  have hne : (E != 0) = true := by simpa using hz
  clear hz
  rcases hv with rfl | rfl
  all_goals
    go_enter Tryz.func53, Tryz.ntmps53
    go_wp2_with (go_at_call 68; refine (HRG.out _ (by exact eX)).mono ?_; rintro e w1 ⟨rfl, hb1⟩; have HE1 := Hm (((Ext.refl w).alloc _).trans hb1); clear hb1)
    go_ret3
    exact ⟨_, _, _, _, rfl, OB.nil _ _, Sl.none0 _ _, HE1.out, Nat.le_refl _, Nat.zero_le _⟩
theorem colsOf_some {e : Ev} {l : List Rl} {r : Rl} (h : getR e.ao e.av l = some r) : colsOf e l = r.cols := by unfold colsOf; rw [h]
theorem recputC_any (x : EL) (ver : Int) (N g : Nat) (c : Value) (ps : List RR) (w : World) (hx : x.at 5 K.pc w) (hs : x.e.small) (hwk : x.e.wk) (hc : Ca w N g c ps) (ht : x.e.tw) (h0 : 0 ≤ ver) :
    Calls Tryz.prog 53 #[.pointer (some ⟨g, 0, none⟩), x.agg, .int .u8 ver] w (RecPutC (recB x.e (ps.map RR.r) ver) (recT x.e (ps.map RR.r) ver) (recE x.e (ps.map RR.r) ver) w) := by
  unfold recB recT
  by_cases hv : ver = 1 ∨ ver = 2
  · have hE : recE x.e (ps.map RR.r) ver = evE x.e (ps.map RR.r) := by unfold recE; rw [if_pos hv]
    rw [hE]
    by_cases hz : evE x.e (ps.map RR.r) = 0
    · rw [if_pos hz, if_pos hz, hz]
      unfold recPay recTx
      by_cases h7 : x.e.kind = 7
      · rw [if_pos h7, if_pos h7]
        obtain ⟨h8, -⟩ := ev_trunc hz h7
        refine (recput7_any x ver N g c ps w hx hs hwk hc h7 hz h8.2 ht.r hv).mono fun e w' h => ?_
        obtain ⟨v', rfl, h1, h2⟩ := h
        obtain ⟨a', c', rfl⟩ := h1.shape
        exact ⟨a', c', none, 0, rfl, h1, Sl.none0 _ _, h2, Nat.le_refl _, Nat.zero_le _⟩
      · rw [if_neg h7, if_neg h7]
        obtain ⟨r, hg, hok⟩ := ev_ok hz h7 hwk.old
        rw [colsOf_some hg]
        refine (recputr_any x ver r N g c ps w hx hs hwk hc hz hg hok ht.b ht.a ht.at_ hv).mono fun e w' h => ?_
        obtain ⟨v', a', c', rfl, h1, h2, h3, h4⟩ := h
        obtain ⟨a2, c2, rfl⟩ := h1.shape
        exact ⟨a2, c2, a', c', rfl, h1, h2, h3, h4⟩
    · rw [if_neg hz, if_neg hz]
      exact recpute_any x ver N g c ps w hx hs hwk hc hz hv
  · have hE : recE x.e (ps.map RR.r) ver = 18 := by unfold recE; rw [if_neg hv]
    rw [hE, if_neg (by decide), if_neg (by decide)]
    exact recputv_any x ver g w hv h0
theorem recB_none {e : Ev} {l : List Rl} {ver : Int} (h : recE e l ver ≠ 0) : recB e l ver = [] ∧ recT e l ver = [] := by unfold recB recT; rw [if_neg h, if_neg h]; exact ⟨rfl, rfl⟩
theorem recE_zero {e : Ev} {l : List Rl} {ver : Int} (h : recE e l ver = 0) : (ver = 1 ∨ ver = 2) ∧ evE e l = 0 := by
  unfold recE at h
  split at h
  · rename_i hv; exact ⟨hv, h⟩
  · cases h
theorem pcs_256 {s x : ByteArray} (h : x ∈ pcs s) : 1 ≤ x.size ∧ x.size ≤ 256 := by
  have h1 : x.size ∈ lens1 s.size := by rw [← pcs_sizes]; exact List.mem_map_of_mem h
  unfold lens1 at h1
  rw [List.mem_map] at h1
  obtain ⟨i, hi, h2⟩ := h1
  rw [List.mem_range] at hi
  have h3 := lenAt_pos hi
  have h4 : lenAt s.size i ≤ 256 := by unfold lenAt; omega
  omega
theorem split_256 : ∀ {ts : List ByteArray} {x : ByteArray}, x ∈ splitL ts → 1 ≤ x.size ∧ x.size ≤ 256
  | [], x, h => by cases h
  | s :: ts, x, h => by
    rw [splitL_cons] at h
    rcases List.mem_append.1 h with h | h
    · exact pcs_256 h
    · exact split_256 h
theorem recB_short {e : Ev} {l : List Rl} {ver : Int} (hw : e.wk) (ht : e.tw) : (recB e l ver).length ≤ 4096 := by
  by_cases hz : recE e l ver = 0
  · unfold recB
    rw [if_pos hz]
    obtain ⟨hv, hE⟩ := recE_zero hz
    unfold recPay
    by_cases h7 : e.kind = 7
    · rw [if_pos h7]
      obtain ⟨h8, -⟩ := ev_trunc hE h7
      have h1 := refsBy_len ht.r
      have h2 : (sevens e.rs.length).length ≤ 10 := sevens_len10 (by have : (2 : Nat) ^ 64 = 18446744073709551616 := by decide
                                                                     omega)
      rw [List.length_append, List.length_cons]
      omega
    · rw [if_neg h7]
      obtain ⟨r, hg, hok⟩ := ev_ok hE h7 hw.old
      rw [colsOf_some hg]
      have h1 := evHead_len ht.at_
      have hb : (imgPay e.b r.cols ver).length ≤ 1154 := by
        unfold imgPay
        by_cases h0 : e.b = []
        · rw [if_pos h0]; simp
        · rw [if_neg h0]; exact rowPut_short (hok.b (fun h => h0 (hok.b0 h))) hv ht.b
      have ha : (imgPay e.a r.cols ver).length ≤ 1154 := by
        unfold imgPay
        by_cases h0 : e.a = []
        · rw [if_pos h0]; simp
        · rw [if_neg h0]; exact rowPut_short (hok.a (fun h => h0 (hok.a6 h))) hv ht.a
      unfold evPay
      rw [List.length_append, List.length_append]
      omega
  · rw [(recB_none hz).1]; simp
theorem recT_256 {e : Ev} {l : List Rl} {ver : Int} {s : ByteArray} (h : s ∈ recT e l ver) : 1 ≤ s.size ∧ s.size ≤ 256 := by
  unfold recT recTx at h
  split at h
  · split at h
    · cases h
    · exact split_256 h
  · cases h
theorem recT_len {e : Ev} {l : List Rl} {ver : Int} (hw : e.wk) : (recT e l ver).length ≤ 256 := by
  by_cases hz : recE e l ver = 0
  · unfold recT recTx
    rw [if_pos hz]
    obtain ⟨hv, hE⟩ := recE_zero hz
    by_cases h7 : e.kind = 7
    · rw [if_pos h7]; simp
    · rw [if_neg h7]
      obtain ⟨r, hg, hok⟩ := ev_ok hE h7 hw.old
      have h1 := tx_ok hok
      have h2 := split_len h1.1
      have h3 := h1.2
      omega
  · rw [(recB_none hz).2]; simp
theorem isB_putC2 {k ty n : Int} {x y : Nat} {s : ByteArray} {kind ver : Int} (hk0 : 0 ≤ k) (h : errC k ty n x y s kind ver = 0) : isB (putC k ty n x y s kind ver) := by
  obtain ⟨hv, hr, hk, hkd⟩ := errC_zero hk0 h
  unfold putC
  split
  · intro z hz; simp at hz; omega
  · rename_i h1
    obtain rfl : k = 2 := by omega
    have hrv := (right_full hr).1
    split
    · intro z hz
      rcases List.mem_cons.1 hz with rfl | hz
      · omega
      · exact isB_sevens _ _ (Nat.le_refl _) z hz
    · split
      · split
        · exact isB.append (isB_sevens _ _ (Nat.le_refl _)) (isB_strL _)
        · exact isB_putL hrv
      · intro z hz
        rcases List.mem_cons.1 hz with rfl | hz
        · omega
        · exact isB_putL hrv z hz
theorem isB_cells {ver : Int} {l : List K} {cols : List Col} (H : ∀ i (h1 : i < l.length) (h2 : i < cols.length), l[i].k ≠ 0 → isB (l[i].put cols[i].ty ver)) : ∀ k, k ≤ l.length → k ≤ cols.length → isB (cellsPut ver (l.take k) (cols.take k))
  | 0, _, _ => by simp [cellsPut]; exact isB.nil
  | k + 1, h1, h2 => by
    rw [cellsPut_snoc ver l cols k (by omega) (by omega)]
    refine (isB_cells H k (by omega) (by omega)).append ?_
    split
    · exact isB.nil
    · rename_i h; exact H k (by omega) (by omega) h
structure RowB (l : List K) (cols : List Col) (ver : Int) : Prop where
  b : isB (rowPut l cols ver)
  n : (rowPut l cols ver).length ≤ 70000
theorem RowB.of {l : List K} {r : Rl} {ver : Int} (hf : fitsE l r = 0) (hv : ver = 1 ∨ ver = 2) (hs : ∀ c ∈ l, c.tw) : RowB l r.cols ver := by
  have hok := RowOk.of hf hv hs
  obtain ⟨-, h1, h2⟩ := fitsW_zero hf
  have e : cellsPut ver l r.cols = cellsPut ver (l.take l.length) (r.cols.take l.length) := (cellsPut_all h1).symm
  refine ⟨?_, ?_⟩
  · unfold rowPut
    refine (isB_map _).append ?_
    rw [e]
    exact isB_cells (fun i hi hj hk => isB_putC2 (hs _ (List.getElem_mem hi)).k (hok.err i hi hj hk)) _ (Nat.le_refl _) (by omega)
  · unfold rowPut
    rw [show (mapL (nullsL l) ++ cellsPut ver l r.cols).length = _ from List.length_append, mapL_len, nullsL_len, e]
    have := cellsPut_len hok.put l.length (Nat.le_refl _) (by omega)
    have := hok.n16
    unfold mapSize
    omega
theorem isB_refsBy {l : List Rf} : isB (refsBy l) := by
  intro x hx
  unfold refsBy at hx
  simp only [List.mem_flatten, List.mem_map] at hx
  obtain ⟨m, ⟨r, -, rfl⟩, hx⟩ := hx
  exact ((isB_sevens _ _ (Nat.le_refl _)).append (isB_sevens _ _ (Nat.le_refl _))) x hx
theorem isB_img {l : List K} {r : Rl} {ver : Int} (h : l = [] ∨ fitsE l r = 0) (hv : ver = 1 ∨ ver = 2) (ht : ∀ c ∈ l, c.tw) : isB (imgPay l r.cols ver) := by
  unfold imgPay
  split
  · exact isB.nil
  · rename_i h0
    rcases h with h | h
    · exact absurd h h0
    · exact (RowB.of h hv ht).b
theorem isB_recB {e : Ev} {l : List Rl} {ver : Int} (h : recE e l ver = 0) (hw : e.wk) (ht : e.tw) (hf : 0 ≤ e.fl) : isB (recB e l ver) := by
  unfold recB
  rw [if_pos h]
  obtain ⟨hv, hE⟩ := recE_zero h
  unfold recPay
  by_cases h7 : e.kind = 7
  · rw [if_pos h7]
    obtain ⟨h8, h9, -⟩ := ev_trunc hE h7
    refine isB.append ?_ isB_refsBy
    intro x hx
    rcases List.mem_cons.1 hx with rfl | hx
    · omega
    · exact isB_sevens _ _ (Nat.le_refl _) x hx
  · rw [if_neg h7]
    obtain ⟨r, hg, hok⟩ := ev_ok hE h7 hw.old
    rw [colsOf_some hg]
    unfold evPay evHead
    refine (isB.append (isB.append (isB_sevens _ _ (Nat.le_refl _)) (isB_sevens _ _ (Nat.le_refl _))) ?_).append (isB.append ?_ ?_)
    · split
      · exact isB.nil
      · intro x hx
        obtain rfl : x = _ := by simpa using hx
        have := hok.old
        have := hw.old
        omega
    · refine isB_img ?_ hv ht.b
      by_cases h0 : e.old = 0
      · exact .inl (hok.b0 h0)
      · exact .inr (hok.b h0)
    · refine isB_img ?_ hv ht.a
      by_cases h0 : e.kind = 6
      · exact .inl (hok.a6 h0)
      · exact .inr (hok.a h0)
def Gr (r : List Int) (S T : RS) : Prop := (S.e = 0 → T = ⟨S.l ++ r, 0⟩) ∧ (S.e ≠ 0 → S.e ≠ 1 → T.e = S.e)
structure Mn {α : Type} (f : RS → α × RS) : Prop where
  keep : ∀ S : RS, S.e ≠ 0 → (f S).2.e = S.e
  mono : ∀ q r : List Int, Gr r (f ⟨q, 0⟩).2 (f ⟨q ++ r, 0⟩).2 ∧ ((f ⟨q, 0⟩).2.e = 0 → (f ⟨q ++ r, 0⟩).1 = (f ⟨q, 0⟩).1)
theorem Mn.at_ {α : Type} {f : RS → α × RS} (h : Mn f) {r : List Int} {S T : RS} (hg : Gr r S T) : Gr r (f S).2 (f T).2 ∧ ((f S).2.e = 0 → (f T).1 = (f S).1) := by
  by_cases h0 : S.e = 0
  · obtain rfl := hg.1 h0
    rw [RS.eta S h0]
    exact h.mono _ _
  · have hk := h.keep S h0
    refine ⟨⟨fun h1 => absurd (hk ▸ h1) h0, fun _ h1 => ?_⟩, fun h1 => absurd (hk ▸ h1) h0⟩
    rw [hk] at h1 ⊢
    have ht := hg.2 h0 h1
    rw [h.keep T (by rw [ht]; exact h0), ht]
theorem Mn.bind {α β : Type} {f : RS → α × RS} {g : α → RS → β × RS} (hf : Mn f) (hg : ∀ a, Mn (g a)) : Mn (fun st => g (f st).1 (f st).2) := by
  refine ⟨fun S h => ?_, fun q r => ?_⟩
  · have h1 := hf.keep S h
    rw [(hg _).keep _ (by rw [h1]; exact h), h1]
  · obtain ⟨h1, h2⟩ := hf.mono q r
    by_cases h0 : (f ⟨q, 0⟩).2.e = 0
    · have e := h2 h0
      simp only [e]
      exact (hg _).at_ h1
    · have k1 := (hg (f ⟨q, 0⟩).1).keep _ h0
      refine ⟨⟨fun h3 => absurd (k1 ▸ h3) h0, fun _ h3 => ?_⟩, fun h3 => absurd (k1 ▸ h3) h0⟩
      simp only [k1] at h3 ⊢
      have ht := h1.2 h0 h3
      rw [(hg _).keep _ (by rw [ht]; exact h0), ht]
theorem Mn.pure {α : Type} (a : α) : Mn (fun st => (a, st)) := ⟨fun _ _ => rfl, fun _ _ => ⟨⟨fun _ => rfl, fun h => absurd rfl h⟩, fun _ => rfl⟩⟩
theorem Mn.give {α : Type} (a : α) {e : Int} (he : e ≠ 0) : Mn (fun st => (a, giveS st e)) := by
  refine ⟨fun S h => ?_, fun q r => ?_⟩
  · simp only [giveS_gave e h]
  · exact ⟨⟨fun h => absurd h he, fun _ _ => rfl⟩, fun _ => rfl⟩
theorem Mn.fail {α : Type} (a : α) (e : Int) : Mn (fun st => (a, failS st e)) := by
  unfold failS
  by_cases he : e = 0
  · simp only [he, ne_eq, not_true_eq_false, if_false]; exact Mn.pure a
  · simp only [ne_eq, he, not_false_eq_true, if_true]; exact Mn.give a he
theorem Mn.ite {α : Type} {c : Prop} [Decidable c] {f g : RS → α × RS} (hf : Mn f) (hg : Mn g) : Mn (fun st => if c then f st else g st) := by
  by_cases h : c
  · simp only [h, if_true]; exact hf
  · simp only [h, if_false]; exact hg
theorem Mn.guard {α : Type} (a : α) {f : RS → α × RS} (hf : Mn f) : Mn (fun st => if st.e ≠ 0 then (a, st) else f st) := by
  refine ⟨fun S h => ?_, fun q r => ?_⟩
  · simp only [ne_eq, h, not_false_eq_true, if_true]
  · simp only [ne_eq, not_true_eq_false, if_false]
    exact hf.mono q r
theorem Mn.of {α : Type} {f g : RS → α × RS} (h : ∀ st, f st = g st) (hg : Mn g) : Mn f := by obtain rfl : f = g := funext h; exact hg
theorem digs_more : ∀ (l : List Int) (n v : Nat) (r : List Int), (digs l n v).2.2 ≠ 1 → digs (l ++ r) n v = digs l n v ∧ ((digs l n v).2.2 = 0 → (digs l n v).2.1 ≤ n + l.length) := by
  intro l
  induction l with
  | nil => intro n v r h; exact absurd rfl h
  | cons x l ih =>
    intro n v r h
    rw [List.cons_append]
    unfold digs at h ⊢
    by_cases h1 : n = 9 ∧ 1 < x
    · rw [if_pos h1, if_pos h1]; exact ⟨rfl, fun h => by cases h⟩
    · rw [if_neg h1, if_neg h1]
      rw [if_neg h1] at h
      by_cases h2 : 128 ≤ x
      · rw [if_pos h2, if_pos h2]
        rw [if_pos h2] at h
        obtain ⟨e1, e2⟩ := ih (n + 1) _ r h
        exact ⟨e1, fun h => by have := e2 h; rw [List.length_cons]; omega⟩
      · rw [if_neg h2, if_neg h2]
        split
        · exact ⟨rfl, fun h => by cases h⟩
        · exact ⟨rfl, fun _ => by rw [List.length_cons]; simp only; omega⟩
theorem giveS_zero (l : List Int) (e : Int) : giveS ⟨l, 0⟩ e = ⟨[], e⟩ := rfl
theorem Mn.uint (m : Nat) : Mn (uintR m) := by
  refine ⟨fun S h => ?_, fun q r => ?_⟩
  · unfold uintR
    simp only
    (repeat' split)
    · rw [giveS_gave _ h]
    · rw [giveS_gave _ h]
    · rfl
  · unfold uintR
    simp only [giveS_zero]
    by_cases h1 : (digs q 0 0).2.2 = 1
    · rw [if_pos (show (digs q 0 0).2.2 ≠ 0 by rw [h1]; decide)]
      exact ⟨⟨fun h => absurd (h1 ▸ h : (1 : Int) = 0) (by decide), fun _ h => absurd h1 h⟩, fun h => absurd (h1 ▸ h : (1 : Int) = 0) (by decide)⟩
    · obtain ⟨e1, e2⟩ := digs_more q 0 0 r h1
      rw [e1]
      by_cases h2 : (digs q 0 0).2.2 = 0
      · have h3 := e2 h2
        have h2' : ¬ ((digs q 0 0).2.2 ≠ 0) := by simpa using h2
        rw [if_neg h2', if_neg h2']
        by_cases h4 : m < (digs q 0 0).1
        · rw [if_pos h4, if_pos h4]; exact ⟨⟨fun h => absurd h (by decide), fun _ _ => rfl⟩, fun _ => rfl⟩
        · rw [if_neg h4, if_neg h4]
          refine ⟨⟨fun _ => ?_, fun h => absurd rfl h⟩, fun _ => rfl⟩
          simp only
          rw [List.drop_append_of_le_length (by omega)]
      · rw [if_pos h2, if_pos h2]
        exact ⟨⟨fun h => absurd h h2, fun _ _ => rfl⟩, fun _ => rfl⟩
theorem Mn.bytes (n : Nat) : Mn (bytesR n) := by
  refine ⟨fun S h => ?_, fun q r => ?_⟩
  · unfold bytesR
    split
    · rw [giveS_gave _ h]
    · rfl
  · unfold bytesR
    simp only [giveS_zero]
    by_cases h : q.length < n
    · rw [if_pos h]
      exact ⟨⟨fun h => absurd h (show ¬ ((1 : Int) = 0) by decide), fun _ h => absurd rfl h⟩, fun h => absurd h (show ¬ ((1 : Int) = 0) by decide)⟩
    · rw [if_neg h, if_neg (by rw [List.length_append]; omega)]
      refine ⟨⟨fun _ => ?_, fun h => absurd rfl h⟩, fun _ => ?_⟩
      · simp only
        rw [List.drop_append_of_le_length (by omega)]
      · simp only
        rw [List.take_append_of_le_length (by omega)]
theorem Mn.map {α β : Type} {f : RS → α × RS} (hf : Mn f) (k : α → β) : Mn (fun st => (k (f st).1, (f st).2)) := hf.bind (fun a => Mn.pure (k a))
theorem Mn.byte : Mn byteR := (Mn.bytes 1).map fun l => l.headD 0
theorem Mn.word : Mn wordR := (Mn.bytes 8).map ofBytes
theorem Mn.int : Mn intR := (Mn.uint _).map zag
theorem Mn.text (m : Nat) : Mn (textR m) := (Mn.uint m).bind fun n => Mn.bytes n
theorem Mn.float (ver : Int) : Mn (floatR ver) := Mn.ite Mn.word ((Mn.uint _).map rev)
theorem Mn.part (t : Bool) : Mn (partR t) := by
  unfold partR
  refine Mn.ite (f := fun st => ((floatR 2 st).1, if (floatR 2 st).1 = 0 then giveS (floatR 2 st).2 3 else (floatR 2 st).2)) ?_ (Mn.pure 0)
  refine (Mn.float 2).bind (g := fun x st => (x, if x = 0 then giveS st 3 else st)) fun x => ?_
  refine Mn.of (g := fun st => if x = 0 then (x, giveS st 3) else (x, st)) (fun st => by split <;> rfl) (Mn.ite (Mn.give x (by decide)) (Mn.pure x))
theorem Mn.complex (ver : Int) : Mn (complexR ver) := by
  unfold complexR
  refine Mn.ite (f := fun st => (((wordR st).1, (wordR (wordR st).2).1), (wordR (wordR st).2).2)) ?_ ?_
  · exact Mn.word.bind (g := fun a st => ((a, (wordR st).1), (wordR st).2)) fun a => Mn.word.map fun b => (a, b)
  · refine Mn.byte.bind (g := fun m st => let a := partR (decide (m % 2 = 1)) (if 3 < m then giveS st 4 else st); let b := partR (decide (m / 2 % 2 = 1)) a.2; ((a.1, b.1), b.2)) fun m => ?_
    refine Mn.bind (f := fun st => ((), if 3 < m then giveS st 4 else st)) (g := fun _ st => let a := partR (decide (m % 2 = 1)) st; let b := partR (decide (m / 2 % 2 = 1)) a.2; ((a.1, b.1), b.2)) ?_ fun _ => ?_
    · exact Mn.of (g := fun st => if 3 < m then ((), giveS st 4) else ((), st)) (fun st => by split <;> rfl) (Mn.ite (Mn.give _ (by decide)) (Mn.pure _))
    · exact (Mn.part _).bind (g := fun a st => ((a, (partR (decide (m / 2 % 2 = 1)) st).1), (partR (decide (m / 2 % 2 = 1)) st).2)) fun a => (Mn.part _).map fun b => (a, b)
theorem Mn.body (kind ver : Int) : Mn (bodyR kind ver) := by
  unfold bodyR
  refine Mn.ite (Mn.byte.map fun x => (⟨kind, x, 0, 0, ByteArray.empty⟩ : V)) (Mn.ite (Mn.ite (Mn.word.map fun x => (⟨kind, toI64 x, 0, 0, ByteArray.empty⟩ : V)) (Mn.int.map fun x => (⟨kind, x, 0, 0, ByteArray.empty⟩ : V))) (Mn.ite ((Mn.float ver).map fun x => (⟨kind, 0, x, 0, ByteArray.empty⟩ : V)) (Mn.ite ((Mn.complex ver).map fun x => (⟨kind, 0, x.1, x.2, ByteArray.empty⟩ : V)) (Mn.ite ((Mn.text 2048).map fun x => (⟨kind, 0, 0, 0, strOfNums x⟩ : V)) (Mn.pure _)))))
theorem Mn.value (kind ver : Int) : Mn (takeV kind ver) := by
  unfold takeV
  refine Mn.ite (f := fun st => if (failS (bodyR kind ver st).2 (bodyR kind ver st).1.right).e ≠ 0 then (V.zero, failS (bodyR kind ver st).2 (bodyR kind ver st).1.right) else ((bodyR kind ver st).1, failS (bodyR kind ver st).2 (bodyR kind ver st).1.right)) ?_ (Mn.give _ (by decide))
  refine (Mn.body kind ver).bind (g := fun v st => if (failS st v.right).e ≠ 0 then (V.zero, failS st v.right) else (v, failS st v.right)) fun v => ?_
  exact (Mn.fail () v.right).bind (g := fun _ st => if st.e ≠ 0 then (V.zero, st) else (v, st)) fun _ => Mn.guard _ (Mn.pure v)
theorem Mn.large : Mn largeR := by
  refine (Mn.uint 2048).bind (g := fun x st => (x, if x ≤ 64 then giveS st 4 else st)) fun x => ?_
  exact Mn.of (g := fun st => if x ≤ 64 then (x, giveS st 4) else (x, st)) (fun st => by split <;> rfl) (Mn.ite (Mn.give _ (by decide)) (Mn.pure _))
theorem Mn.textK {f : RS → List Int × RS} (hf : Mn f) (kind : Int) : Mn (fun st => textK kind (f st)) :=
  hf.bind (g := fun (l : List Int) (st : RS) => (((⟨2, ⟨kind, 0, 0, 0, strOfNums l⟩⟩ : K), 0), failS st (rightV kind 0 (0 : Nat) (0 : Nat) (strOfNums l)))) fun _ => Mn.fail _ _
theorem Mn.first (kind : Int) : Mn (firstC kind) := by
  unfold firstC
  refine Mn.byte.bind (g := fun t st => if st.e ≠ 0 then ((K.zero, 0), st) else if 2 < t ∨ (t ≠ 1 ∧ kind ≠ 5 ∧ kind ≠ 6) then ((K.zero, 0), giveS st 7) else if t = 0 then ((⟨1, V.zero⟩, 0), st) else if t = 2 then ((fullT kind, (largeR st).1), (largeR st).2) else if kind = 5 ∨ kind = 6 then Go.Proofs.YtjnafppkbhldlaaGreat.textK kind (textR 64 st) else ((⟨2, (takeV kind 1 st).1⟩, 0), (takeV kind 1 st).2)) fun t => ?_
  exact Mn.guard _ (Mn.ite (Mn.give _ (by decide)) (Mn.ite (Mn.pure _) (Mn.ite (Mn.large.map fun x => (fullT kind, x)) (Mn.ite ((Mn.text 64).textK kind) ((Mn.value kind 1).map fun v => ((⟨2, v⟩ : K), 0))))))
theorem Mn.second (kind : Int) : Mn (secondC kind) := by
  unfold secondC
  refine (Mn.uint 66).bind (g := fun t st => if st.e ≠ 0 then ((K.zero, 0), st) else if t = 0 then ((⟨1, V.zero⟩, 0), st) else if t = 1 then ((fullT kind, (largeR st).1), (largeR st).2) else Go.Proofs.YtjnafppkbhldlaaGreat.textK kind (bytesR (t - 2) st)) fun t => ?_
  exact Mn.guard _ (Mn.ite (Mn.pure _) (Mn.ite (Mn.large.map fun x => (fullT kind, x)) ((Mn.bytes _).textK kind)))
theorem Mn.pre (kind ver : Int) : Mn (preC kind ver) := by
  unfold preC
  exact Mn.ite (Mn.give _ (by decide)) (Mn.ite (Mn.give _ (by decide)) (Mn.ite (Mn.first kind) (Mn.ite (Mn.second kind) ((Mn.value kind 2).map fun v => ((⟨2, v⟩ : K), 0)))))
theorem Mn.cell (kind ver : Int) : Mn (takeC kind ver) := by
  unfold takeC finC
  exact (Mn.pre kind ver).bind (g := fun a st => if st.e ≠ 0 then ((K.zero, 0), st) else (a, st)) fun a => Mn.guard _ (Mn.pure a)
theorem Mn.up (nulls : List Bool) (cols : List Col) (ver : Int) : ∀ k, Mn (fun st => tkUp nulls cols ver st k)
  | 0 => Mn.pure _
  | k + 1 => by
    have ih := Mn.up nulls cols ver k
    by_cases h : k < nulls.length ∧ k < cols.length
    · cases hb : nulls[k]'h.1 with
      | true =>
        refine Mn.of (g := fun st => (((tkUp nulls cols ver st k).1.1 ++ [K.zero], (tkUp nulls cols ver st k).1.2), (tkUp nulls cols ver st k).2)) (fun st => tkUp_null h.1 h.2 hb) ?_
        exact ih.map fun a => (a.1 ++ [K.zero], a.2)
      | false =>
        refine Mn.of (g := fun st => (((tkUp nulls cols ver st k).1.1 ++ [(takeC (cols[k]'h.2).ty ver (tkUp nulls cols ver st k).2).1.1], if 0 < (takeC (cols[k]'h.2).ty ver (tkUp nulls cols ver st k).2).1.2 then (tkUp nulls cols ver st k).1.2 ++ [⟨k, ((takeC (cols[k]'h.2).ty ver (tkUp nulls cols ver st k).2).1.2 : Nat)⟩] else (tkUp nulls cols ver st k).1.2), (takeC (cols[k]'h.2).ty ver (tkUp nulls cols ver st k).2).2)) (fun st => tkUp_cell h.1 h.2 hb rfl) ?_
        exact ih.bind (g := fun a st => ((a.1 ++ [(takeC (cols[k]'h.2).ty ver st).1.1], if 0 < (takeC (cols[k]'h.2).ty ver st).1.2 then a.2 ++ [⟨k, ((takeC (cols[k]'h.2).ty ver st).1.2 : Nat)⟩] else a.2), (takeC (cols[k]'h.2).ty ver st).2)) fun a =>
          (Mn.cell _ ver).map fun c => (a.1 ++ [c.1], if 0 < c.2 then a.2 ++ [⟨k, (c.2 : Nat)⟩] else a.2)
    · refine Mn.of (g := fun st => tkUp nulls cols ver st k) (fun st => ?_) ih
      conv => lhs; unfold tkUp
      rw [dif_neg h]
theorem Mn.row (r : Rl) (ver : Int) : Mn (takeT r ver) := by
  refine Mn.of (g := fun st => (fun (_ : Unit) (S : RS) => if S.e ≠ 0 then ((([], []) : List K × List Ho), S) else (fun (b : List Int) (S : RS) => if S.e ≠ 0 then ((([], []) : List K × List Ho), S) else finT (tkUp (unmapL b r.cols.length).1 r.cols ver (failS S (unmapL b r.cols.length).2) (unmapL b r.cols.length).1.length)) (bytesR (mapSize r.cols.length) S).1 (bytesR (mapSize r.cols.length) S).2) ((), begR r ver st).1 ((), begR r ver st).2) (fun st => by unfold takeT; rfl) ?_
  refine Mn.bind (f := fun st => ((), begR r ver st)) (g := fun (_ : Unit) (S : RS) => if S.e ≠ 0 then ((([], []) : List K × List Ho), S) else (fun (b : List Int) (S : RS) => if S.e ≠ 0 then ((([], []) : List K × List Ho), S) else finT (tkUp (unmapL b r.cols.length).1 r.cols ver (failS S (unmapL b r.cols.length).2) (unmapL b r.cols.length).1.length)) (bytesR (mapSize r.cols.length) S).1 (bytesR (mapSize r.cols.length) S).2) ?_ fun _ => ?_
  · unfold begR
    refine Mn.of (g := fun st => if ver = 1 ∨ ver = 2 then ((), failS st r.right) else ((), giveS (failS st r.right) 18)) (fun st => by split <;> rfl) (Mn.ite (Mn.fail _ _) ?_)
    exact (Mn.fail () r.right).bind (g := fun _ st => ((), giveS st 18)) fun _ => Mn.give _ (by decide)
  · refine Mn.guard _ ((Mn.bytes (mapSize r.cols.length)).bind (g := fun (b : List Int) (S : RS) => if S.e ≠ 0 then ((([], []) : List K × List Ho), S) else finT (tkUp (unmapL b r.cols.length).1 r.cols ver (failS S (unmapL b r.cols.length).2) (unmapL b r.cols.length).1.length)) fun b => Mn.guard _ ?_)
    refine (Mn.fail () (unmapL b r.cols.length).2).bind (g := fun _ S => finT (tkUp (unmapL b r.cols.length).1 r.cols ver S (unmapL b r.cols.length).1.length)) fun _ => ?_
    unfold finT
    refine (Mn.up _ _ ver _).bind (g := fun a S => if S.e ≠ 0 then ((([], []) : List K × List Ho), S) else (a, S)) fun a => Mn.guard _ (Mn.pure a)
theorem right_types {r : Rl} (h : r.right = 0) {i : Nat} (hi : i < r.cols.length) : 1 ≤ r.cols[i].ty ∧ r.cols[i].ty ≤ 6 := by
  have h0 : firstE (colAt r.cols) r.cols.length = 0 := by
    unfold Rl.right at h
    (repeat' split at h) <;> first | omega | (rename_i h1 _; exact Classical.not_not.1 h1) | (exfalso; omega)
  have h1 := firstE_all h0 i hi
  rw [colAt_lt hi] at h1
  unfold colE at h1
  (repeat' split at h1) <;> first | omega | (exfalso; omega)
def Hol (kind : Int) (x : (K × Nat) × RS) : Prop := x.1.2 ≠ 0 → x.1.1 = fullT kind
theorem Hol.zero {kind : Int} {c : K} {S : RS} : Hol kind ((c, 0), S) := fun h => absurd rfl h
theorem Hol.full {kind : Int} {m : Nat} {S : RS} : Hol kind ((fullT kind, m), S) := fun _ => rfl
theorem hol_first (kind : Int) (st : RS) : Hol kind (firstC kind st) := by
  unfold firstC textK
  simp only
  (repeat' split) <;> first | exact Hol.zero | exact Hol.full
theorem hol_second (kind : Int) (st : RS) : Hol kind (secondC kind st) := by
  unfold secondC textK
  simp only
  (repeat' split) <;> first | exact Hol.zero | exact Hol.full
theorem takeC_hole {kind ver : Int} {st : RS} (h : (takeC kind ver st).1.2 ≠ 0) : (takeC kind ver st).1.1 = fullT kind := by
  have key : Hol kind (takeC kind ver st) := by
    unfold takeC finC
    split
    · exact Hol.zero
    · unfold preC
      (repeat' split) <;> first | exact hol_first kind st | exact hol_second kind st | exact Hol.zero
  exact key h
def txO (O : List Ho) : List ByteArray := O.map fun h => fillS ByteArray.empty h.n.toNat
theorem txO_len (O : List Ho) : (txO O).length = O.length := by simp [txO]
theorem setText_low {l : List K} {c : K} {i : Nat} {s : ByteArray} (h : i < l.length) : setText (l ++ [c]) i s = setText l i s ++ [c] := by
  unfold setText
  rw [dif_pos (by rw [List.length_append]; omega), dif_pos h, List.set_append_left _ _ h]
  simp only [List.getElem_append_left h]
theorem setText_last {l : List K} {c : K} {s : ByteArray} : setText (l ++ [c]) l.length s = l ++ [⟨c.k, { c.v with s := s }⟩] := by
  unfold setText
  rw [dif_pos (by rw [List.length_append, List.length_singleton]; omega), List.set_append_right _ _ (Nat.le_refl _)]
  simp
theorem fillUp_low {l : List K} {c : K} {hs : List Ho} {ts : List ByteArray} (h : ∀ o ∈ hs, 0 ≤ o.c ∧ o.c < l.length) : ∀ j, fillUp (l ++ [c]) hs ts j = fillUp l hs ts j ++ [c]
  | 0 => rfl
  | j + 1 => by
    have ih := fillUp_low (l := l) (c := c) (hs := hs) (ts := ts) h j
    by_cases h1 : j < hs.length ∧ j < ts.length
    · have ho := h _ (List.getElem_mem h1.1)
      rw [fillUp_succ h1.1 h1.2, fillUp_succ h1.1 h1.2, ih, setText_low (by rw [fillUp_len]; omega)]
    · conv => lhs; unfold fillUp
      conv => rhs; unfold fillUp
      rw [dif_neg h1, dif_neg h1]; exact ih
theorem fillUp_ahead {l : List K} {hs : List Ho} {ts : List ByteArray} {o : Ho} {t : ByteArray} : ∀ j, j ≤ hs.length → j ≤ ts.length → fillUp l (hs ++ [o]) (ts ++ [t]) j = fillUp l hs ts j
  | 0, _, _ => rfl
  | j + 1, h1, h2 => by
    have ih := fillUp_ahead (l := l) (hs := hs) (ts := ts) (o := o) (t := t) j (by omega) (by omega)
    rw [fillUp_succ (show j < (hs ++ [o]).length by rw [List.length_append]; omega) (show j < (ts ++ [t]).length by rw [List.length_append]; omega), fillUp_succ (by omega) (by omega), ih, List.getElem_append_left (by omega), List.getElem_append_left (by omega)]
structure TkInv (nulls : List Bool) (cols : List Col) (ver : Int) (b : List Int) (k : Nat) (M : List K) (O : List Ho) (l : List Int) (F : List K) : Prop where
  len : F.length = k
  lenM : M.length = k
  isl : isB l
  put : b = cellsPut ver F (cols.take k) ++ l
  cell : ∀ i (h1 : i < F.length) (h2 : i < cols.length) (h3 : i < nulls.length), F[i].right cols[i].ty = 0 ∧ decide (F[i].k = 0) = nulls[i]
  tw : ∀ c ∈ F, c.tw
  holes : ∀ o ∈ O, 0 ≤ o.c ∧ o.c < k ∧ 0 ≤ o.n ∧ o.n ≤ 2048
  fill : fillUp M O (txO O) O.length = F
theorem TkInv.snoc {nulls : List Bool} {cols : List Col} {ver : Int} {b l l2 p : List Int} {k : Nat} {M F : List K} {O O2 : List Ho} {c d : K} (h : TkInv nulls cols ver b k M O l F) (hk : k < nulls.length) (hk2 : k < cols.length)
    (hl : l = p ++ l2) (hp : p = if d.k = 0 then [] else d.put cols[k].ty ver) (hr : d.right cols[k].ty = 0) (hn : decide (d.k = 0) = nulls[k]) (ht : d.tw)
    (hO : (O2 = O ∧ c = d) ∨ ∃ m : Nat, m ≤ 2048 ∧ O2 = O ++ [⟨k, (m : Nat)⟩] ∧ d = ⟨c.k, { c.v with s := fillS ByteArray.empty m }⟩) : TkInv nulls cols ver b (k + 1) (M ++ [c]) O2 l2 (F ++ [d]) := by
  have hF := h.len
  have hlow : ∀ o ∈ O, 0 ≤ o.c ∧ o.c < M.length := fun o ho => by have := h.holes o ho; rw [h.lenM]; exact ⟨this.1, this.2.1⟩
  refine ⟨by rw [List.length_append, hF]; rfl, by rw [List.length_append, h.lenM]; rfl, ?_, ?_, ?_, ?_, ?_, ?_⟩
  · exact fun z hz => h.isl z (by rw [hl]; exact List.mem_append.2 (.inr hz))
  · have h1 : k < (F ++ [d]).length := by rw [List.length_append, hF]; exact Nat.lt_succ_self k
    have h2 := cellsPut_snoc ver (F ++ [d]) cols k h1 hk2
    have e1 : (F ++ [d]).take (k + 1) = F ++ [d] := List.take_of_length_le (by rw [List.length_append, hF]; exact Nat.le_refl _)
    have e2 : (F ++ [d]).take k = F := by rw [List.take_append_of_le_length (by omega), List.take_of_length_le (by omega)]
    have e3 : (F ++ [d])[k] = d := by rw [List.getElem_append_right (by omega)]; simp [hF]
    rw [e1, e2, e3, ← hp] at h2
    rw [h2, List.append_assoc, ← hl]; exact h.put
  · intro i h1 h2 h3
    by_cases hi : i < F.length
    · rw [List.getElem_append_left hi]; exact h.cell i hi h2 h3
    · rw [List.length_append, List.length_singleton] at h1
      obtain rfl : i = k := by omega
      have e3 : (F ++ [d])[i]'(by rw [List.length_append, List.length_singleton]; omega) = d := by rw [List.getElem_append_right (by omega)]; simp [hF]
      rw [e3]; exact ⟨hr, hn⟩
  · intro x hx
    rcases List.mem_append.1 hx with hx | hx
    · exact h.tw x hx
    · obtain rfl : x = d := by simpa using hx
      exact ht
  · intro o ho
    rcases hO with ⟨rfl, -⟩ | ⟨m, hm, rfl, -⟩
    · have := h.holes o ho; omega
    · rcases List.mem_append.1 ho with ho | ho
      · have := h.holes o ho; omega
      · obtain rfl : o = _ := by simpa using ho
        simp only; omega
  · rcases hO with ⟨rfl, rfl⟩ | ⟨m, -, rfl, rfl⟩
    · rw [fillUp_low hlow, h.fill]
    · have et : txO (O ++ [⟨(k : Int), (m : Int)⟩]) = txO O ++ [fillS ByteArray.empty m] := by simp [txO]
      have el : (O ++ [(⟨(k : Int), (m : Int)⟩ : Ho)]).length = O.length + 1 := by simp
      have h1 : O.length < (O ++ [(⟨(k : Int), (m : Int)⟩ : Ho)]).length := by rw [el]; exact Nat.lt_succ_self _
      have h2 : O.length < (txO O ++ [fillS ByteArray.empty m]).length := by rw [List.length_append, txO_len]; exact Nat.lt_succ_self _
      have e4 : (O ++ [(⟨(k : Int), (m : Int)⟩ : Ho)])[O.length] = ⟨(k : Int), (m : Int)⟩ := by simp
      have e5 : (txO O ++ [fillS ByteArray.empty m])[O.length] = fillS ByteArray.empty m := by
        rw [List.getElem_append_right (by rw [txO_len]; exact Nat.le_refl _)]; simp
      rw [el, et, fillUp_succ h1 h2, e4, e5, fillUp_ahead _ (Nat.le_refl _) (by rw [txO_len]; exact Nat.le_refl _), fillUp_low hlow, h.fill]
      have : (k : Int).toNat = F.length := by rw [hF]; exact Int.toNat_natCast k
      simp only [this]
      exact setText_last
end Go.Proofs.YtjnafppkbhldlaaGreat
