/-
What stands of tables while a block of events or of one transaction is written.
-/
import Derived.Sort.MapsRangeIn
import Derived.RangeFuncMany
import Derived.RangeFuncFrom
import Derived.RangeFuncLeaves
import Derived.RangeFuncBox
import Derived.RangeFuncOne
import Derived.TacticsInMore
import Derived.OwnWalkIn
import Derived.LoopIn
import Derived.Test.YtkhlgoafeacdcaaGreatP10
namespace Go.Proofs.YtkhlgoafeacdcaaGreat
open Go.RowKit Go.Maps

def noStr (u : Value) : Prop := ∀ s, u ≠ .string s
/-- All cells of a block. -/
def AllIn (W : World) (b : Nat) (p : Value → Prop) : Prop := ∀ cs t, W.heap[b]? = some (.cells cs t (0, 0)) → ∀ u ∈ cs.toList, p u
/-- A block of events or of a transaction: no string in it. -/
structure Quiet (W : World) (b : Nat) : Prop where
  t : ∃ cs t, Blk W b cs t ∧ (t = 34 ∨ t = 103)
  s : AllIn W b noStr
theorem Quiet.no {W : World} {b o : Nat} {s : ByteArray} (h : Quiet W b) : W.cell? ⟨b, o, none⟩ ≠ some (.string s) := by
  obtain ⟨⟨cs, t, h1, -⟩, h2⟩ := h
  intro e
  rw [h1.cell] at e
  have h3 : cs[o]? = some (.string s) := by simpa using e
  have h4 : (Value.string s) ∈ cs.toList := by
    rw [Array.mem_toList_iff]
    exact Array.mem_of_getElem? h3
  exact h2 cs t h1 _ h4 s rfl
theorem Quiet.not {W : World} {b : Nat} {cs : Array Value} {t : TypeId} (h : Quiet W b) (hb : Blk W b cs t) (h1 : t ≠ 34) (h2 : t ≠ 103) : False := by
  obtain ⟨⟨cs', t', h3, h4⟩, -⟩ := h
  unfold Blk at h3 hb
  rw [h3] at hb
  simp only [Option.some.injEq, Obj.cells.injEq] at hb
  obtain ⟨-, rfl, -⟩ := hb
  rcases h4 with h4 | h4
  · exact h1 h4
  · exact h2 h4
section
variable {W W' : World} {row : Option Nat}
theorem Sl.quiet {a : Option Addr} {n c k : Nat} {xss : List (List Value)} (h : Sl W (.slice a n c) k xss) (hg : W.grownBy W' row) (hq : ∀ b, row = some b → Quiet W b) (j : Nat) (hj : j < k) (hs : ∀ xs ∈ xss, ∃ s, xs[j]? = some (.string s)) : Sl W' (.slice a n c) k xss :=
  h.grown1 hg (fun h0 b o e e2 => by
    obtain ⟨a', c', hv, h1⟩ := h
    simp only [Value.slice.injEq] at hv
    obtain ⟨rfl, rfl, rfl⟩ := hv
    rcases h1 with h1 | ⟨b', o', e', hb', hc⟩
    · exact h0 h1
    · rw [e] at e'; cases e'
      have h2 := hc 0 (List.length_pos_iff.2 h0) j hj
      cases xss with
      | nil => exact h0 rfl
      | cons x r =>
        obtain ⟨s, hs⟩ := hs x (List.mem_cons_self ..)
        rw [show ((x :: r).getD 0 [])[j]? = some (Value.string s) from hs] at h2
        exact (hq b e2).no h2)
theorem RwA.quiet {v : Value} {ls : List (List K)} (h : RwA 5 K.pc W v ls) (hg : W.grownBy W' row) (hq : ∀ b, row = some b → Quiet W b) : RwA 5 K.pc W' v ls := by
  obtain ⟨a, c, qs, rfl, h1, h2⟩ := h
  refine ⟨a, c, qs, rfl, ⟨h1.row.grown1 hg (fun h0 b o e e2 => ?_), fun q hq2 => (h1.sl q hq2).quiet hg hq 4 (by omega) (fun xs hx => ?_), h1.tag.kp (fun b cs hb => (hg.block b hb.lt (fun e => ?_)).trans hb)⟩, h2⟩
  · obtain ⟨cs, hb⟩ := h1.tag b o _ c (by rw [e]) (List.length_pos_iff.2 (fun h => h0 (by rw [h]; rfl)))
    exact (hq b e2).not hb (by decide) (by decide)
  · obtain ⟨k, -, rfl⟩ := List.mem_map.1 hx
    exact ⟨_, rfl⟩
  · first
      | exact (hq b e).not hb (by decide) (by decide)
      | exact (hq b e.symm).not hb (by decide) (by decide)
theorem MapT.quiet {m : Nat} {rs : List Rl} {T : Tb} (h : MapT W m rs T) (hg : W.grownBy W' row) (hq : ∀ b, row = some b → Quiet W b) : MapT W' m rs T := by
  have hne : some m ≠ row := fun e => by
    obtain ⟨D, ⟨es, cl, hm, -⟩, -⟩ := h
    obtain ⟨⟨cs, t, hb, -⟩, -⟩ := hq m e.symm
    unfold Blk at hb
    rw [hm] at hb
    cases hb
  exact h.kept hg hne (fun _ _ h => h.quiet hg hq)
theorem Ca.quiet {N c2 : Nat} {cv : Value} {ps : List RR} (h : Ca W N c2 cv ps) (hg : W.grownBy W' row) (hq : ∀ b, row = some b → Quiet W b) : Ca W' N c2 cv ps := by
  refine h.kp (Kp.of_grown hg) (fun e => (hq _ e).not h.ptr (by decide) (by decide)) (fun b e e2 => ?_) (fun p hp h0 b o e e2 => ?_)
  · rcases h.own.2 with ⟨h1, -⟩ | ⟨g2, cap, cur, h1, -, h2, -⟩
    · rw [h1] at e; cases e
    · rw [h1] at e
      have e3 : g2 = b := by simpa [Value.ownBlock] using e
      subst e3
      exact (hq _ e2).not (cs := cur) h2 (by decide) (by decide)
  · have h1 := h.sl p hp
    obtain ⟨b', o', e', hb', hc⟩ := Sl.at_ h1 (i := 0) (by rw [List.length_map]; exact List.length_pos_iff.2 h0)
    rw [e] at e'; cases e'
    have h2 := hc 0 (by omega)
    cases hcs : p.r.cols with
    | nil => exact h0 hcs
    | cons d ds =>
      rw [hcs] at h2
      exact (hq b e2).no (s := d.nm) h2
theorem Bs.quiet {N g : Nat} {ps : List RR} {T : Tb} (h : Bs W N g ps T) (hg : W.grownBy W' row) (hq : ∀ b, row = some b → Quiet W b) : Bs W' N g ps T := by
  obtain ⟨cat, cv, m, h1, h2, h3⟩ := h
  exact ⟨cat, cv, m, Blk.kp h1 (Kp.of_grown hg) (fun e => (hq _ e).not h1 (by decide) (by decide)), h2.quiet hg hq, h3.quiet hg hq⟩
/-- Another base stands while one is turned. -/
theorem Bs.base {N g N2 g2 : Nat} {ps ps2 : List RR} {T T2 : Tb} (h : Bs W N2 g2 ps2 T2) (hb : Bs W N g ps T) (hne : g2 ≠ g) (hk : Kp (fun x => x = g) W W') : Bs W' N2 g2 ps2 T2 := by
  obtain ⟨cat, cv, m, h1, h2, h3⟩ := h
  obtain ⟨cat', cv', m', hb, -, -⟩ := hb
  exact ⟨cat, cv, m, Blk.kp h1 hk hne, h2.base hb hk, h3.base hb hk⟩
theorem grown_of_kp {g : Nat} (hk : Kp (fun x => x = g) W W') : W.grownBy W' (some g) := ⟨hk.os, hk.tape, hk.output, hk.size, fun k h1 h2 => hk.block k h1 (fun e => h2 (by rw [e]))⟩
theorem Quiet.kp {S : Nat → Prop} {b : Nat} (h : Quiet W b) (hk : Kp S W W') (hs : ¬ S b) : Quiet W' b := by
  obtain ⟨⟨cs, t, h1, h2⟩, h3⟩ := h
  have h4 := h1.kp hk hs
  refine ⟨⟨cs, t, h4, h2⟩, fun cs' t' h5 => h3 cs' t' ?_⟩
  rw [← hk.block b h1.lt hs]; exact h5
theorem Quiet.ext {b : Nat} (h : Quiet W b) (he : Ext W W') : Quiet W' b := h.kp (S := fun _ => False) (Kp.of_ext he) (fun h => h)
end

/-- What append makes has no other cells than those there were, what is appended, and zeros. -/
theorem append_all {P : Program} {w w' : World} {v v' : Value} {p : Value → Prop} (base : Nat) (t ty e : TypeId) (i : TypeInfo) (z : Value) (size bytes : Nat) (ht : P.underlying t = some (.slice e)) (hi : P.info? e = some i) (hz : i.zero = some z)
    (hsize : i.size = size) (hby : i.bytes = bytes) (hzs : z.cells.size = size) (hsz : 0 < size)
    (n : Nat) (xs : List Value) (hown : w.ownsRow base e size v n xs)
    (a : Addr) (m c : Nat) (news : List Value) (hl : news.length = m * size) (hnews : ∀ j u, news[j]? = some u → w.cell? (a.add j) = some u) (h1 : ∀ u ∈ news, u.oneCell' = true)
    (h63 : n + m ≤ maxLen) (hbytes : (n + m) * bytes ≤ 140737488355328)
    (hr : (Builtin.append_ #[t, t] ty #[v, .slice (some a) m c]).run P w = .ok v' w') (hpz : ∀ u ∈ z.cells.toList, p u) (hpn : ∀ u ∈ news, p u) (hp : ∀ b, v.ownBlock = some b → AllIn w b p) :
    ∀ b, v'.ownBlock = some b → AllIn w' b p := by
  subst hsize
  subst hby
  have hsmall : n + m ≤ 9223372036854775807 := by simp only [maxLen] at h63; omega
  have hzero : ∀ q, ∀ u ∈ (Builtin.zeroCells z.cells q).toList, p u := by
    intro q u hu
    unfold Builtin.zeroCells at hu
    rw [Array.toList_map] at hu
    obtain ⟨k, hk, rfl⟩ := List.mem_map.1 hu
    have h2 : k % z.cells.size < z.cells.size := Nat.mod_lt _ (by omega)
    rw [getElem!_pos z.cells _ h2]
    exact hpz _ (by rw [Array.mem_toList_iff]; exact Array.getElem_mem h2)
  rcases hown.2 with ⟨rfl, rfl⟩ | ⟨g, cap, cur, rfl, hbg, hg, hnc, hcm, hcs, htake⟩
  · by_cases hm : m = 0
    · subst hm
      have hn : news = [] := List.eq_nil_of_length_eq_zero (by simpa using hl)
      subst hn
      have h2 : (Builtin.append_ #[t, t] ty #[.slice none 0 0, .slice (some a) 0 c]).run P w = .ok (.slice none 0 0) w := by
        simp [Builtin.append_, run_underlying ht, sizeOf, typeInfo, hi, Builtin.lenOf, Builtin.firstCells, loadCells, loadCellsFrom]
      rw [h2] at hr
      cases hr
      intro b hb; cases hb
    · have h2 := run_append_nil (P := P) w t ty e i z ht hi hz a m c news hl hnews (by omega) (by omega) (by have hb := hbytes; simp only [Nat.zero_add] at hb; omega)
      rw [h2] at hr
      cases hr
      intro b hb
      have hb : w.heap.size = b := by simpa [Value.ownBlock] using hb
      subst hb
      intro cs t' h3 u hu
      have h4 := heap_alloc_new w.drew (.cells (news.toArray ++ Builtin.zeroCells z.cells (grownCap w m 0 e - m)) e)
      rw [show w.drew.heap.size = w.heap.size from rfl] at h4
      rw [h4] at h3
      cases h3
      rw [Array.toList_append, List.mem_append] at hu
      rcases hu with hu | hu
      · exact hpn u hu
      · exact hzero _ u hu
  · have hx : ∀ u ∈ cur.toList, p u := hp g rfl cur e hg
    by_cases hroom : n + m ≤ cap
    · have hfit : n * i.size + news.length ≤ cur.size := by rw [hl, hcs, ← Nat.add_mul]; exact Nat.mul_le_mul_right _ hroom
      have h2 := run_append_room (P := P) w t ty e i ht hi g n cap cur hg a m c news hl hnews h1 hroom hfit
      rw [h2] at hr
      cases hr
      intro b hb
      have hb : g = b := by simpa [Value.ownBlock] using hb
      subst hb
      intro cs t' h3 u hu
      rw [setRow_heap w g cur _ e _ hg] at h3
      cases h3
      simp only [List.mem_append] at hu
      rcases hu with (hu | hu) | hu
      · exact hx u (List.mem_of_mem_take hu)
      · exact hpn u hu
      · exact hx u (List.mem_of_mem_drop hu)
    · have holds : ∀ j u, xs[j]? = some u → w.cell? ((⟨g, 0, none⟩ : Addr).add j) = some u := hown.cells (g := g) rfl
      have h2 := run_append_grow (P := P) w t ty e i z ht hi hz ⟨g, 0, none⟩ n cap xs hown.1 holds a m c news hl hnews (by omega) (by omega) (growslice_fits (by omega) hbytes)
      rw [h2] at hr
      cases hr
      intro b hb
      have hb : w.heap.size = b := by simpa [Value.ownBlock] using hb
      subst hb
      intro cs t' h3 u hu
      have h4 := heap_alloc_new w.drew (.cells (xs.toArray ++ news.toArray ++ Builtin.zeroCells z.cells (grownCap w (n + m) cap e - (n + m))) e)
      rw [show w.drew.heap.size = w.heap.size from rfl] at h4
      rw [h4] at h3
      cases h3
      simp only [Array.toList_append, List.mem_append] at hu
      rcases hu with (hu | hu) | hu
      · exact hx u (List.mem_of_mem_take (by rw [htake]; exact hu))
      · exact hpn u hu
      · exact hzero _ u hu

theorem wp_append_all {P : Program} {w : World} {o : Oper} {a : Act} {K : Act → World → Prop} {Q : Exit → Act → World → Prop} (p : Value → Prop) (s x : Operand) (t : TypeId)
    (ho : o.op = .call { callee := .builtin .append, args := #[s, x], argTypes := #[t, t] })
    (base : Nat) (e : TypeId) (i : TypeInfo) (z : Value) (size bytes : Nat) (ht : P.underlying t = some (.slice e)) (hi : P.info? e = some i) (hz : i.zero = some z)
    (hsize : i.size = size) (hby : i.bytes = bytes) (hzs : z.cells.size = size) (hsz : 0 < size)
    (v : Value) (n : Nat) (xs : List Value) (hs : a.eval s = v) (hown : w.ownsRow base e size v n xs) (u : Value) (xss : List (List Value)) (hx : a.eval x = u) (hu : Sl w u size xss)
    (hk : ∀ ys ∈ xss, ys.length = size) (h1 : ∀ y ∈ xss.flatten, y.oneCell' = true) (h63 : n + xss.length ≤ maxLen) (hbytes : (n + xss.length) * bytes ≤ 140737488355328) (hbase : base ≤ w.heap.size)
    (hpz : ∀ u ∈ z.cells.toList, p u) (hpn : ∀ u ∈ xss.flatten, p u) (hp : ∀ b, v.ownBlock = some b → AllIn w b p)
    (h : ∀ v' w', w'.ownsRow base e size v' (n + xss.length) (xs ++ xss.flatten) → w.grownBy w' v.ownBlock → (v'.ownBlock = v.ownBlock ∨ v'.ownBlock = some w.heap.size) → (∀ b, v'.ownBlock = some b → AllIn w' b p) → K (a.put o.dst v') w') : o.wp P a w K Q := by
  obtain ⟨A, cap, rfl, hcs⟩ := hu
  have key : ∃ v' w', (Builtin.append_ #[t, t] o.type #[v, .slice A xss.length cap]).run P w = .ok v' w' ∧ w'.ownsRow base e size v' (n + xss.length) (xs ++ xss.flatten) ∧ w.grownBy w' v.ownBlock ∧ (v'.ownBlock = v.ownBlock ∨ v'.ownBlock = some w.heap.size) ∧ (∀ b, v'.ownBlock = some b → AllIn w' b p) := by
    rcases A with _ | ad
    · have h0 : xss = [] := by
        rcases hcs with h | ⟨b, o, e, _⟩
        · exact h
        · cases e
      subst h0
      exact ⟨v, w, run_app_nil base t o.type e i size ht hi v n xs hown cap, by simpa using hown, ⟨rfl, rfl, rfl, Nat.le_refl _, fun _ _ _ => rfl⟩, .inl rfl, hp⟩
    · have hn : ∀ j u, xss.flatten[j]? = some u → w.cell? (ad.add j) = some u := by
        rcases hcs with h | ⟨b, o', e', _, hc⟩
        · subst h; intro j u hj; simp at hj
        · cases e'
          exact news_sl hsz hk hc
      obtain ⟨v', w', hr, h2, h3, _, h5⟩ := run_append_own_at (P := P) w base t o.type e i z size bytes ht hi hz hsize hby hzs hsz v n xs hown ad xss.length cap xss.flatten (flat_length size xss hk) hn h1 h63 hbytes hbase
      exact ⟨v', w', hr, h2, h3, h5, append_all base t o.type e i z size bytes ht hi hz hsize hby hzs hsz n xs hown ad xss.length cap xss.flatten (flat_length size xss hk) hn h1 h63 hbytes hr hpz hpn hp⟩
  obtain ⟨v', w', hrun, h2, h3, h4, h5⟩ := key
  unfold Oper.wp execOp
  simp only [ho, resolve, invoke, builtin, Sem.run_bind, Sem.run_pure, Result.andThen_ok, List.map_toArray, List.map_cons, List.map_nil, hs, hx, hrun]
  exact h v' w' h2 h3 h4 h5

end Go.Proofs.YtkhlgoafeacdcaaGreat

/-
Tables in plain words: all at once, or one by one.
-/
namespace Go.Proofs.YtkhlgoafeacdcaaGreat
open Go.RowKit

def T0 : Tb := fun _ _ => []
theorem rt_bits {t : Tx} {l : List Rl} (h : rtE t l = 0) : t.xid ≠ 0 ∧ t.es.length ≤ 512 ∧ ∀ e ∈ t.es, evE e l = 0 := by
  unfold rtE at h
  split at h
  · cases h
  · rename_i h0
    split at h
    · cases h
    · refine ⟨h0, by omega, fun e he => ?_⟩
      obtain ⟨j, hj, rfl⟩ := List.getElem_of_mem he
      have h2 := firstE_all h j hj
      unfold evAt at h2
      rwa [dif_pos hj] at h2
theorem rt_from {t : Tx} {l : List Rl} (h0 : t.xid ≠ 0) (h1 : t.es.length ≤ 512) (h2 : ∀ e ∈ t.es, evE e l = 0) : rtE t l = 0 :=
  (rt_ok h0 h1 (fun j hj => by unfold evAt; rw [dif_pos hj]; exact h2 _ (List.getElem_mem hj))).1
theorem ap_bits {rs : List Rl} {T : Tb} {t : Tx} (h : apE rs T t = 0) : rtE t rs = 0 ∧ ∀ i, i < t.es.length → evXat rs T t.es i = 0 := by
  unfold apE at h
  split at h
  · rename_i h0; exact absurd h h0
  · rename_i h0
    exact ⟨by simpa using h0, firstE_all h⟩
theorem stT_left {rs : List Rl} {T : Tb} {a b : List Ev} : ∀ {k : Nat}, k ≤ a.length → stT rs T (a ++ b) k = stT rs T a k
  | 0, _ => rfl
  | k + 1, h => by
    have h1 : k < a.length := by omega
    rw [stT_succ h1, stT_succ (by rw [List.length_append]; omega), stT_left (by omega), List.getElem_append_left h1]
theorem stT_right {rs : List Rl} {T : Tb} {a b : List Ev} : ∀ {k : Nat}, k ≤ b.length → stT rs T (a ++ b) (a.length + k) = stT rs (stT rs T a a.length) b k
  | 0, _ => stT_left (Nat.le_refl _)
  | k + 1, h => by
    have h1 : k < b.length := by omega
    have h2 : a.length + k < (a ++ b).length := by rw [List.length_append]; omega
    rw [stT_succ h1, show a.length + (k + 1) = (a.length + k) + 1 by omega, stT_succ h2, stT_right (by omega), List.getElem_append_right (by omega)]
    congr 2
    omega
theorem evXat_left {rs : List Rl} {T : Tb} {a b : List Ev} {k : Nat} (h : k < a.length) : evXat rs T (a ++ b) k = evXat rs T a k := by
  rw [evXat_at h, evXat_at (by rw [List.length_append]; omega), stT_left (by omega), List.getElem_append_left h]
theorem evXat_right {rs : List Rl} {T : Tb} {a b : List Ev} {k : Nat} (h : k < b.length) : evXat rs T (a ++ b) (a.length + k) = evXat rs (stT rs T a a.length) b k := by
  have h2 : a.length + k < (a ++ b).length := by rw [List.length_append]; omega
  rw [evXat_at h, evXat_at h2, stT_right (by omega), List.getElem_append_right (by omega)]
  congr 2
  omega

/-- What all that was done makes of no rows. -/
structure OneI (rs : List Rl) (T : Tb) (all : List Ev) : Prop where
  ev : ∀ e ∈ all, evE e rs = 0
  x : ∀ i, i < all.length → evXat rs T0 all i = 0
  t : stT rs T0 all all.length = T
theorem OneI.nil (rs : List Rl) : OneI rs T0 [] := ⟨(fun e h => by cases h), (fun i h => absurd h (Nat.not_lt_zero _)), rfl⟩
theorem OneI.step {rs : List Rl} {T : Tb} {all : List Ev} {t : Tx} (h : OneI rs T all) (h0 : apE rs T t = 0) : OneI rs (apT rs T t) (all ++ t.es) := by
  obtain ⟨h1, h2⟩ := ap_bits h0
  refine ⟨fun e he => ?_, fun i hi => ?_, ?_⟩
  · rcases List.mem_append.1 he with he | he
    · exact h.ev e he
    · exact (rt_bits h1).2.2 e he
  · rcases Nat.lt_or_ge i all.length with h3 | h3
    · rw [evXat_left h3]; exact h.x i h3
    · obtain ⟨k, rfl⟩ : ∃ k, i = all.length + k := ⟨i - all.length, by omega⟩
      rw [List.length_append] at hi
      rw [evXat_right (by omega), h.t]
      exact h2 k (by omega)
  · rw [List.length_append, stT_right (Nat.le_refl _), h.t]
    unfold apT
    rw [h0, if_neg (by simp)]
theorem OneI.fin {rs : List Rl} {T : Tb} {all : List Ev} (h : OneI rs T all) (hn : all.length ≤ 512) : apE rs T0 ⟨1, 0, all⟩ = 0 ∧ apP rs T0 ⟨1, 0, all⟩ = -1 ∧ apT rs T0 ⟨1, 0, all⟩ = T := by
  have h1 : rtE (⟨1, 0, all⟩ : Tx) rs = 0 := rt_from (show (1 : Int) ≠ 0 by decide) hn h.ev
  obtain ⟨e1, e2, e3⟩ := ap_good (T := T0) h1 h.x
  exact ⟨e1, e2, e3.trans h.t⟩

end Go.Proofs.YtkhlgoafeacdcaaGreat

/-
A head whose condition grows behind a call; an operation with a guard that is on; two that may come up.
-/
namespace Go.Proofs.YtkhlgoafeacdcaaGreat
open Go.RowKit

section
variable {P : Program} {ops : Array Oper} {Q : Exit → Act → World → Prop} {md : Region.Mode} {S S' : World → Prop}

/-- What is shown under a condition that says more is shown under one that says less. -/
theorem wpHd_str {n : Nat} (hS : ∀ w, S' w → S w) : ∀ (f : Nat) (listed : Array Bool) (a : Act) (w : World), wpHd P md ops Q S' n f listed a w → wpHd P md ops Q S n f listed a w
  | 0, _, _, _, h => h
  | f + 1, _, _, _, ⟨h0, h⟩ => ⟨h0, fun i hi => ⟨(h i hi).1, wpOp_mono (fun _ _ h' => ⟨hS _ h'.1, wpHd_str hS f _ _ _ h'.2⟩) (h i hi).2⟩⟩

/-- Number 'i' alone may come up, its guard is on. -/
theorem wpHd_oneG {n i : Nat} {o : Oper} {f : Nat} {listed : Array Bool} {a : Act} {w : World} (hi : ops[i]? = some o) (hg : Region.wanted o (yielded ops a.tmps) = true)
    (hr : (decide (Region.ready md ops listed = [i]) && decide (i < n)) = true)
    (h : ∀ K : Act → World → Prop, Hid (∀ a' w', S w' → (S w' → wpHd P md ops Q S n f (listed.setIfInBounds i true) a' w') → K a' w') → o.wp P a w K Q) : wpHd P md ops Q S n (f + 1) listed a w := by
  simp only [Bool.and_eq_true, decide_eq_true_eq] at hr
  refine ⟨by rw [hr.1]; simp, fun j hj => ?_⟩
  rw [hr.1] at hj
  have hji : j = i := by simpa using hj
  subst hji
  refine ⟨hr.2, ?_⟩
  unfold wpOp
  simp only [hi]
  rw [if_pos hg]
  exact .inl (h _ (fun a' w' hs hk => ⟨hs, hk hs⟩))

/-- Numbers 'i' and 'j' may come up. -/
theorem wpHd_two {n i j : Nat} {o o2 : Oper} {f : Nat} {listed : Array Bool} {a : Act} {w : World} (hi : ops[i]? = some o) (hg : o.guard = none) (hj : ops[j]? = some o2) (hg2 : o2.guard = none)
    (hr : (decide (Region.ready md ops listed = [i, j]) && (decide (i < n) && decide (j < n))) = true)
    (h : ∀ K : Act → World → Prop, Hid (∀ a' w', S w' → (S w' → wpHd P md ops Q S n f (listed.setIfInBounds i true) a' w') → K a' w') → o.wp P a w K Q)
    (h2 : ∀ K : Act → World → Prop, Hid (∀ a' w', S w' → (S w' → wpHd P md ops Q S n f (listed.setIfInBounds j true) a' w') → K a' w') → o2.wp P a w K Q) : wpHd P md ops Q S n (f + 1) listed a w := by
  simp only [Bool.and_eq_true, decide_eq_true_eq] at hr
  refine ⟨by rw [hr.1]; simp, fun k hk => ?_⟩
  rw [hr.1] at hk
  simp only [List.mem_cons, List.not_mem_nil, or_false] at hk
  rcases hk with rfl | rfl
  · refine ⟨hr.2.1, ?_⟩
    unfold wpOp
    simp only [hi]
    rw [if_pos (by simp [Region.wanted, hg])]
    exact .inl (h _ (fun a' w' hs hk => ⟨hs, hk hs⟩))
  · refine ⟨hr.2.2, ?_⟩
    unfold wpOp
    simp only [hj]
    rw [if_pos (by simp [Region.wanted, hg2])]
    exact .inl (h2 _ (fun a' w' hs hk => ⟨hs, hk hs⟩))
end

theorem HG.wpHd_takeD {P : Program} {ops : Array Oper} {Q : Exit → Act → World → Prop} {md : Region.Mode} {S : World → Prop} {n i : Nat} {oi : Oper} {d : Option Tmp} {v : Value} {f : Nat} {listed : Array Bool} {a : Act} {w : World} (hi : ops[i]? = some oi) (hd : oi.dst = d)
    (hB : headB md ops n listed = true) (hf : Region.free md ops listed i = true) (hr : ((Region.ready md ops listed).contains i && decide (i < n)) = true)
    (hQ : ∀ c a w, Q (.panic c) (a.put d v) w → Q (.panic c) a w) (hy : YieldsIf P ops S oi v a) (hS : S w)
    (h : wpHd P md ops Q S n f (listed.setIfInBounds i true) (a.put d v) w) : wpHd P md ops Q S n (f + 1) listed a w := by
  subst hd
  exact wpHd_take hi hB hf hr hQ hy hS h

end Go.Proofs.YtkhlgoafeacdcaaGreat

/-
A transaction's events are done: the program's Apply.
-/
namespace Go.Proofs.YtkhlgoafeacdcaaGreat
open Go.RowKit Go.Maps

theorem Blk.fiveT {W : World} {b : Nat} {u0 u1 u2 u3 u4 v0 v1 v2 v3 v4 : Value} {T : TypeId} (h : Blk W b #[u0, u1, u2, u3, u4] T) :
    Blk (((((W.setCell ⟨b, 0, none⟩ v0).setCell ⟨b, 1, none⟩ v1).setCell ⟨b, 2, none⟩ v2).setCell ⟨b, 3, none⟩ v3).setCell ⟨b, 4, none⟩ v4) b #[v0, v1, v2, v3, v4] T := ((((h.set 0 _).set 1 _).set 2 _).set 3 _).set 4 _
def ApPost (N g : Nat) (ps : List RR) (T : Tb) (t : Tx) (w : World) (e : Ending) (w' : World) : Prop :=
  e = .returned (.tuple #[.int .i64 (apP (ps.map RR.r) T t), .int .i64 (apE (ps.map RR.r) T t)]) ∧ Bs w' N g ps (apT (ps.map RR.r) T t) ∧ Kp (fun x => x = g) w w'
theorem ApPost.same {N g : Nat} {ps : List RR} {T : Tb} {t : Tx} {w w' : World} {P E : Int} (h : apE (ps.map RR.r) T t = E ∧ apP (ps.map RR.r) T t = P ∧ apT (ps.map RR.r) T t = T) (hb : Bs w N g ps T) (he : Ext w w') : ApPost N g ps T t w (.returned (.tuple #[.int .i64 P, .int .i64 E])) w' := by
  obtain ⟨h1, h2, h3⟩ := h
  exact ⟨by rw [h1, h2], by rw [h3]; exact hb.ext he, Kp.of_ext he⟩
theorem hasR_b32 {ps : List RR} (hB : ∀ p ∈ ps, B32 p.r.oid ∧ B32 p.r.ver) {o v : Int} (h : hasR o v (ps.map RR.r) = true) : B32 o ∧ B32 v := by
  unfold hasR at h
  obtain ⟨x, hx, h1⟩ := List.any_eq_true.1 h
  obtain ⟨p, hp, rfl⟩ := List.mem_map.1 hx
  have h2 : p.r.oid = o ∧ p.r.ver = v := of_decide_eq_true h1
  have h3 := hB p hp
  rw [h2.1, h2.2] at h3
  exact h3
theorem rt_zero {t : Tx} {l : List Rl} (h : rtE t l = 0) : t.es.length ≤ 512 ∧ ∀ j (hj : j < t.es.length), evE t.es[j] l = 0 := by
  unfold rtE at h
  split at h
  · cases h
  · split at h
    · cases h
    · refine ⟨by omega, fun j hj => ?_⟩
      have h2 := firstE_all h j hj
      unfold evAt at h2
      rwa [dif_pos hj] at h2
theorem ev_kind {e : Ev} {l : List Rl} (h : evE e l = 0) : 4 ≤ e.kind ∧ e.kind ≤ 7 := by
  unfold evE at h
  split at h
  · cases h
  · omega
theorem ev_refs {e : Ev} {l : List Rl} (h : evE e l = 0) (h7 : e.kind = 7) : ∀ x ∈ e.rs, hasR x.o x.v l = true := by
  unfold evE at h
  split at h
  · cases h
  · split at h
    · cases h
    · unfold truncE at h
      split at h
      · cases h
      · split at h
        · cases h
        · split at h
          · cases h
          · rename_i h3
            have h4 : hasAll e.rs l = true := by simpa using h3
            unfold hasAll at h4
            exact fun x hx => List.all_eq_true.1 h4 x hx
theorem ev_rel {e : Ev} {l : List Rl} (h : evE e l = 0) (h7 : e.kind ≠ 7) : ∃ r, getR e.ao e.av l = some r := by
  unfold evE at h
  split at h
  · cases h
  · split at h
    · cases h
    · split at h
      · cases h
      · rename_i r hr; exact ⟨r, hr⟩
theorem clrT_zero (T : Tb) : clrT T [] = T := by funext a b; rfl
theorem clrT_succ (T : Tb) (rs : List Rf) {j : Nat} (h : j < rs.length) : clrT T (rs.take (j + 1)) = (clrT T (rs.take j)).put rs[j].o rs[j].v [] := by
  funext a b
  unfold clrT Tb.put rfIn
  rw [List.take_succ_eq_append_getElem h, List.any_append]
  simp only [List.any_cons, List.any_nil, Bool.or_false]
  by_cases e : a = rs[j].o ∧ b = rs[j].v
  · rw [if_pos e]
    obtain ⟨rfl, rfl⟩ := e
    simp
  · rw [if_neg e]
    have : decide (rs[j].o = a ∧ rs[j].v = b) = false := decide_eq_false (fun q => e ⟨q.1.symm, q.2.symm⟩)
    rw [this, Bool.or_false]

set_option maxRecDepth 100000 in set_option maxHeartbeats 8000000 in
theorem apply_any (t : TL) (N g n : Nat) (ps : List RR) (T : Tb) (w : World) (hb : Bs w N g ps T) (hB : ∀ p ∈ ps, B32 p.r.oid ∧ B32 p.r.ver) (hT : TbOk T n) (ht : t.at 5 K.pc w) (hn : n + t.es.length ≤ 1000) (hs : ∀ e ∈ t.es, e.e.small) (hwk : ∀ e ∈ t.es, e.e.wk) :
    Calls Tryz.prog 12 #[.pointer (some ⟨g, 0, none⟩), t.agg] w (ApPost N g ps T t.t w) := by
  have HBS := Hid.mk' hb
  have HB := Hid.mk' hB
  obtain ⟨cat, cv, m, hat, hca, hmp⟩ := hb
  have HAT := Hid.mk' hat
  have HTR := Hid.mk' (fun W (he : Ext w W) => txright_any t N cat cv ps W (ht.ext he) (by omega) hs hwk (hca.ext he))
  have HCM := Hid.mk' (fun W (he : Ext w W) => tclone_any m (ps.map RR.r) T W (hmp.ext he))
  have HGET := Hid.mk' (fun o v r (hg : getR o v (ps.map RR.r) = some r) W (he : Ext w W) => cget_is (hca.ext he) hg)
  have HC16 := Hid.mk' (fun o v r (hg : getR o v (ps.map RR.r) = some r) => show r.cols.length ≤ 1000 by
    obtain ⟨p, hp, rfl⟩ := List.mem_map.1 (getR_some hg).1
    have := hca.n16 hp; omega)
  have HES := Hid.mk' ht
  have HSM := Hid.mk' hs
  have HTB := Hid.mk' (fun k (hk : k ≤ t.es.length) => (hT.st (ps.map RR.r) (es := t.es.map EL.e) (fun e he => by
    obtain ⟨x, hx, rfl⟩ := List.mem_map.1 he
    exact (hs x hx).a) k).mono (show n + k ≤ 1000 by omega))
  have HWR := Hid.mk' (fun h => ap_wrong (ps := ps.map RR.r) (T := T) (t := t.t) h)
  have HBD := Hid.mk' (fun k h0 hz hk hne => ap_bad (ps := ps.map RR.r) (T := T) (t := t.t) (k := k) h0 hz hk hne)
  have HGD := Hid.mk' (fun h0 hz => ap_good (ps := ps.map RR.r) (T := T) (t := t.t) h0 hz)
  have HRZ : Hid (rtE t.t (ps.map RR.r) = 0 → ∀ j (hj : j < t.es.length), evE t.es[j].e (ps.map RR.r) = 0) := Hid.mk' (fun h j hj => by
    have h1 := (rt_zero h).2 j (by unfold TL.t; simpa using hj)
    simpa [TL.t] using h1)
  clear hB hat hca hmp hT ht hs hwk
  obtain ⟨xid, st, es, ta, tc⟩ := t
  unfold TL.agg at HTR ⊢
  unfold TL.at at HES
  unfold TL.t at HTR HWR HBD HGD HRZ ⊢
  simp only at HTR HES HSM HTB HWR HBD HGD HRZ hn ⊢
  rw [List.length_map] at HBD HGD
  have c0 := HAT.out.cell0
  have c1 := HAT.out.cell1
  have cz : g < w.heap.size := HBS.out.lt
  generalize rtE ⟨xid, st, es.map EL.e⟩ (ps.map RR.r) = E at HTR HWR HBD HGD HRZ
  generalize rtP ⟨xid, st, es.map EL.e⟩ (ps.map RR.r) = P at HTR HWR
  by_cases hE : E = 0
  case neg =>
    have hE1 : (E != 0) = true := by simpa using hE
    have HW2 := Hid.mk' (HWR.out hE)
    clear HWR HBD HGD HRZ hE HGET HC16 HCM HES HSM HTB
    go_enter Tryz.func12, Tryz.ntmps12
    go_wp2
    go_region_held3 (fun w' => Ext (w.alloc (.cells #[.int .u32 xid, .int .u64 st, .slice ta es.length tc] 34)) w' ∧ (∀ b o, b < (w.alloc (.cells #[.int .u32 xid, .int .u64 st, .slice ta es.length tc] 34)).heap.size → w'.cell? ⟨b, o, none⟩ = (w.alloc (.cells #[.int .u32 xid, .int .u64 st, .slice ta es.length tc] 34)).cell? ⟨b, o, none⟩) ∧ (∀ b o, b < (w.alloc (.cells #[.int .u32 xid, .int .u64 st, .slice ta es.length tc] 34)).heap.size → w'.frozen? ⟨b, o, none⟩ = (w.alloc (.cells #[.int .u32 xid, .int .u64 st, .slice ta es.length tc] 34)).frozen? ⟨b, o, none⟩)) ((exact held_of (by exact eX))) (first | (go_at_call 38; refine (HTR.out _ (by exact eX)).mono ?_; rintro e w2 ⟨rfl, hb2⟩; have hE_w2 : Ext (w.alloc (.cells #[.int .u32 xid, .int .u64 st, .slice ta es.length tc] 34)) w2 := (by exact eX); obtain ⟨hc_w2, hf_w2⟩ := hE_w2.cells; have hz_w2 := hE_w2.size))
    go_wp2
    go_ret2
    exact ApPost.same HW2.out HBS.out (by exact eX)
  subst hE
  have HRZ2 := Hid.mk' (HRZ.out rfl)
  have HBD2 := Hid.mk' (fun k hz hk hne => HBD.out k rfl hz hk hne)
  have HGD2 := Hid.mk' (HGD.out rfl)
  clear HWR HBD HGD HRZ
  go_enter Tryz.func12, Tryz.ntmps12
  go_wp2
  go_region_held3 (fun w' => Ext (w.alloc (.cells #[.int .u32 xid, .int .u64 st, .slice ta es.length tc] 34)) w' ∧ (∀ b o, b < (w.alloc (.cells #[.int .u32 xid, .int .u64 st, .slice ta es.length tc] 34)).heap.size → w'.cell? ⟨b, o, none⟩ = (w.alloc (.cells #[.int .u32 xid, .int .u64 st, .slice ta es.length tc] 34)).cell? ⟨b, o, none⟩) ∧ (∀ b o, b < (w.alloc (.cells #[.int .u32 xid, .int .u64 st, .slice ta es.length tc] 34)).heap.size → w'.frozen? ⟨b, o, none⟩ = (w.alloc (.cells #[.int .u32 xid, .int .u64 st, .slice ta es.length tc] 34)).frozen? ⟨b, o, none⟩)) ((exact held_of (by exact eX))) (first | (go_at_call 38; refine (HTR.out _ (by exact eX)).mono ?_; rintro e w2 ⟨rfl, hb2⟩; have hE_w2 : Ext (w.alloc (.cells #[.int .u32 xid, .int .u64 st, .slice ta es.length tc] 34)) w2 := (by exact eX); obtain ⟨hc_w2, hf_w2⟩ := hE_w2.cells; have hz_w2 := hE_w2.size))
  have HE2 := Hid.mk' (show Ext w w2 by exact eX)
  have HX2 := Hid.mk' ((Blk.new w #[.int .u32 xid, .int .u64 st, .slice ta es.length tc] 34).ext hE_w2)
  go_wp2_with (go_at_call 39; refine (HCM.out _ HE2.out).mono ?_; rintro e w3 ⟨rfl, hm3, hb3⟩; have HM3 := Hid.mk' hm3; have HE3 := Hid.mk' (HE2.out.trans hb3); have gx := (HX2.out.ext hb3).cell; have zx := (HX2.out.ext hb3).lt; clear hm3 hb3)
  have hMw : w.heap.size < w2.heap.size := HX2.out.lt
  obtain ⟨M, hM⟩ : ∃ M, M = w2.heap.size := ⟨_, rfl⟩
  rw [← hM] at HM3 hMw ⊢
  have HMW := Hid.mk' hMw
  obtain ⟨rs, hrs⟩ : ∃ rs, rs = ps.map RR.r := ⟨_, rfl⟩
  have HRS := Hid.mk' hrs
  rw [← hrs] at HM3 HGET HC16 HTB HRZ2 HBD2 HGD2
  have HHB := Hid.mk' (fun o v (h : hasR o v rs = true) => hasR_b32 HB.out (o := o) (v := v) (by rw [← hrs]; exact h))
  clear hM hrs HCM HTR HX2 gx zx HE2 hE_w2 hc_w2 hf_w2 hz_w2 hb2 hMw HB
  go_loopg [38] es.length (fun z i wr => ∃ k : Nat, z + k = es.length ∧ i = .int .i64 k ∧ Hid (MapT wr M rs (stT rs T (es.map EL.e) k)) ∧ Hid (∀ j, j < k → evXat rs T (es.map EL.e) j = 0) ∧ Hid (Ext w wr))
  case atStart => exact ⟨0, by omega, rfl, HM3, Hid.mk' (fun j h => by omega), HE3⟩
  case round =>
    obtain ⟨k, hzk, rfl, hmp, hz, hE⟩ := hrel
    by_cases hlt : k < es.length
    · obtain ⟨b, o, rfl, hb, hx⟩ := HES.out.row.at_ (i := k) (by simpa using hlt)
      obtain ⟨f0, f1, f2, f3, f4, f5, f6, f7⟩ := EL.at_ hlt hx hb hE.out
      have hbw : b < wr.heap.size := Nat.lt_of_lt_of_le hb hE.out.size
      have hlm : k < (es.map EL.e).length := by simpa using hlt
      have HST := Hid.mk' (stT_succ (ps := rs) (T := T) hlm)
      have HXT := Hid.mk' (evXat_at (ps := rs) (T := T) hlm)
      rw [List.getElem_map] at HST HXT
      have HR0 := Hid.mk' (HRZ2.out k hlt)
      have HXL := Hid.mk' (fun W (h : Ext w W) => (HES.out.sl _ (List.getElem_mem hlt)).ext h)
      have HXS := Hid.mk' (HSM.out _ (List.getElem_mem hlt))
      have HTK := Hid.mk' (HTB.out k (by omega))
      generalize stT rs T (es.map EL.e) k = Tk at hmp HST HXT HTK
      obtain ⟨x, hxe⟩ : ∃ x, x = es[k] := ⟨_, rfl⟩
      rw [← hxe] at f0 f1 f2 f3 f4 f5 f6 f7 HST HXT HR0 HXL HXS
      have HLT := Hid.mk' hlt
      obtain ⟨⟨k1, ao1, av1, old1, b1, a1, r1, fl1⟩, ba1, bc1, aa1, ac1, ra1, rc1⟩ := x
      simp only at f0 f1 f2 f3 f4 f5 f6 f7 HST HXT HR0
      clear hxe hx hb hlm
      by_cases h7 : k1 = 7
      · subst h7
        have HRF := Hid.mk' (fun x hx => ev_refs HR0.out rfl x hx)
        have HST2 := Hid.mk' (HST.out.trans (show evT rs Tk _ = clrT Tk r1 from if_pos rfl))
        have HXT2 := Hid.mk' (HXT.out.trans (show evX rs Tk _ = 0 from if_pos rfl))
        have HSR := Hid.mk' (fun W (h : Ext w W) => (HXL.out W h).r)
        have HRN := Hid.mk' HXS.out.r
        simp only at HRF HSR HRN
        clear HST HXT HR0 HXL HXS HTK HGET HC16
        go_wp2
        go_loopg [49] r1.length (fun z i wq => ∃ j : Nat, z + j = r1.length ∧ i = .int .i64 j ∧ Hid (MapT wq M rs (clrT Tk (r1.take j))) ∧ Hid (Ext w wq))
        case atStart => exact ⟨0, by omega, rfl, Hid.mk' (by rw [List.take_zero, clrT_zero]; exact hmp.out.ext ((Ext.refl wr).alloc _)), Hid.mk' (hE.out.alloc _)⟩
        case round =>
          obtain ⟨j, hzj, rfl, hmq, hEq⟩ := hrel
          by_cases hj : j < r1.length
          · obtain ⟨b2, o2, rfl, hb2, hx2⟩ := (HSR.out wr hEq.out).at_ (i := j) (by simpa using hj)
            obtain ⟨g0, g1⟩ := Rf.at_ hj hx2 hb2 (Ext.refl wr)
            have HCS := Hid.mk' (clrT_succ Tk r1 hj)
            have HIN := Hid.mk' (HRF.out _ (List.getElem_mem hj))
            obtain ⟨q, hq⟩ : ∃ q, q = r1[j] := ⟨_, rfl⟩
            have HJ := Hid.mk' hj
            rw [← hq] at g0 g1 HCS HIN
            obtain ⟨ho, hv⟩ := HHB.out _ _ HIN.out
            obtain ⟨D, hown, hle, hput⟩ := (hmq.out.ext ((Ext.refl wr).alloc (.cells #[.int .u32 q.o, .int .u32 q.v] 68))).stored
            have HPUT := Hid.mk' (fun W' h1 h2 => hput W' q.o q.v (.slice none 0 0) [] ho hv HIN.out h1 h2 (RwA.nil _))
            clear hq hx2 hput
            go_wp2_with (at_mapUpdate; refine wpList_mapUpdate_own _ rfl _ _ _ 91 rfl 68 66 Tryz.lawRef Tryz.underlying91 RV M (Maps.size D) D rfl hown (by unfold maxLen; omega) _ _ _ rfl rfl (keyRef ho hv) _ [] rfl ?_)
            intro w4 hown4 hgrow4
            have HM4 := Hid.mk' (HPUT.out w4 hown4 hgrow4)
            have HE4 := Hid.mk' (Ext.map (hEq.out.alloc _) hgrow4 (Nat.le_of_lt HMW.out))
            clear hown4 hgrow4 hown hle HPUT
            have hjr : j < r1.length := HJ.out
            have hrn : r1.length ≤ 1000 := HRN.out
            go_wp2
            go_roundg (r1.length - (j + 1))
            case measure => have := HJ.out; omega
            case rel => exact ⟨j + 1, by have := HJ.out; omega, by go_num, Hid.mk' (by rw [HCS.out]; exact HM4.out), HE4⟩
          · obtain rfl : j = r1.length := by omega
            rw [List.take_length] at hmq
            go_wp2
            go_roundg (es.length - (k + 1))
            case measure => have := HLT.out; omega
            case rel => exact ⟨k + 1, by have := HLT.out; omega, by go_num, Hid.mk' (by rw [HST2.out]; exact hmq.out), Hid.mk' (fun j hj => by
              by_cases e : j = k
              · subst e; exact HXT2.out
              · exact hz.out j (by omega)), hEq⟩
      · have h7' : (k1 == 7) = false := by simpa using h7
        obtain ⟨r, hr⟩ := ev_rel HR0.out h7
        have hin : hasR ao1 av1 rs = true := by
          cases hh : hasR ao1 av1 rs with
          | true => rfl
          | false => rw [getR_none.2 hh] at hr; cases hr
        have HIN := Hid.mk' hin
        obtain ⟨ho, hv⟩ := HHB.out _ _ hin
        have HST2 := Hid.mk' (HST.out.trans (show evT rs Tk _ = Tk.put ao1 av1 (rowsL r.cols (Tk ao1 av1) ⟨k1, ao1, av1, old1, b1, a1, r1, fl1⟩) from by unfold evT; rw [if_neg h7]; simp only [hr]))
        have HXT2 := Hid.mk' (HXT.out.trans (show evX rs Tk _ = rowsE r.cols (Tk ao1 av1) ⟨k1, ao1, av1, old1, b1, a1, r1, fl1⟩ from by unfold evX; rw [if_neg h7]; simp only [hr]))
        have HGT := Hid.mk' (fun W h => HGET.out _ _ r hr W h)
        have HC := Hid.mk' (HC16.out _ _ r hr)
        have HBN := Hid.mk' (fun hne => HBD2.out k hz.out hlt hne)
        clear HST HXT hr hin h7 HGET HC16 HHB HRZ2 HBD2
        obtain ⟨oid, ver, nm, id, cols⟩ := r
        simp only at HGT HC HST2 HXT2
        have l0 := (HAT.out.ext hE.out).cell0
        have l1 := (HAT.out.ext hE.out).cell1
        have lz : g < wr.heap.size := Nat.lt_of_lt_of_le cz hE.out.size
        go_upto_region 14 with (fail)
        obtain ⟨we, hwe⟩ : ∃ we, we = wr.alloc (.cells #[.int .u8 k1, .int .u32 ao1, .int .u32 av1, .int .u8 old1, .slice ba1 b1.length bc1, .slice aa1 a1.length ac1, .slice ra1 r1.length rc1, .int .u8 fl1] 103) := ⟨_, rfl⟩
        have HWE := Hid.mk' (show Ext wr we by rw [hwe]; exact (Ext.refl wr).alloc _)
        have HXE := Hid.mk' (show Blk we wr.heap.size #[.int .u8 k1, .int .u32 ao1, .int .u32 av1, .int .u8 old1, .slice ba1 b1.length bc1, .slice aa1 a1.length ac1, .slice ra1 r1.length rc1, .int .u8 fl1] 103 by rw [hwe]; exact Blk.new _ _ _)
        rw [← hwe]
        clear hwe f0 f1 f2 f3 f4 f5 f6 f7 hbw
        have gx := HXE.out.cell
        have zx := HXE.out.lt
        have l0 := (HAT.out.ext (hE.out.trans HWE.out)).cell0
        have l1 := (HAT.out.ext (hE.out.trans HWE.out)).cell1
        have lz : g < we.heap.size := Nat.lt_of_lt_of_le cz (hE.out.trans HWE.out).size
        go_cut [13, 14] (fun p i wx => ∃ X a2 c2, p = .pointer (some ⟨X, 0, none⟩) ∧ i = .bool true ∧ Hid (Blk wx X #[.int .u32 oid, .int .u32 ver, .string nm, .int .u8 id, .slice a2 cols.length c2] 99) ∧ Hid (Sl wx (.slice a2 cols.length c2) 3 (cols.map Col.cells)) ∧ Hid (Ext we wx))
        case first =>
          have hA0 : Hid ((fun w' => Ext (we) w' ∧ (∀ b o, b < (we).heap.size → w'.cell? ⟨b, o, none⟩ = (we).cell? ⟨b, o, none⟩) ∧ (∀ b o, b < (we).heap.size → w'.frozen? ⟨b, o, none⟩ = (we).frozen? ⟨b, o, none⟩)) we.drew) := held_of (by exact eX)
          refine wp_region_head 12 (fun w' => Ext (we) w' ∧ (∀ b o, b < (we).heap.size → w'.cell? ⟨b, o, none⟩ = (we).cell? ⟨b, o, none⟩) ∧ (∀ b o, b < (we).heap.size → w'.frozen? ⟨b, o, none⟩ = (we).frozen? ⟨b, o, none⟩)) (by kernel_rfl) (by decide) ?_
          refine HG.on 0 57 hA0.out ?_
          try simp only [Act.put, List.setIfInBounds_toArray, List.set_cons_zero, List.set_cons_succ]
          refine HG.on 1 58 hA0.out ?_
          try simp only [Act.put, List.setIfInBounds_toArray, List.set_cons_zero, List.set_cons_succ]
          refine HG.on 2 59 hA0.out ?_
          try simp only [Act.put, List.setIfInBounds_toArray, List.set_cons_zero, List.set_cons_succ]
          refine HG.on 3 60 hA0.out ?_
          try simp only [Act.put, List.setIfInBounds_toArray, List.set_cons_zero, List.set_cons_succ]
          refine HG.on 4 61 hA0.out ?_
          try simp only [Act.put, List.setIfInBounds_toArray, List.set_cons_zero, List.set_cons_succ]
          refine HG.on 5 62 hA0.out ?_
          try simp only [Act.put, List.setIfInBounds_toArray, List.set_cons_zero, List.set_cons_succ]
          refine wpHd_two (i := 6) (j := 10) rfl rfl rfl rfl (by kernel_rfl) (fun KK hK => ?_) (fun KK hK => ?_)
          · go_simp
            refine (HGT.out _ ((hE.out.trans HWE.out).trans (by exact eX))).mono ?_
            rintro e w6 ⟨⟨qr, qa, qc⟩, rfl, hqr, hqo, hb6⟩
            simp only at hqr; subst hqr
            have HQO := Hid.mk' hqo
            have HB6 := Hid.mk' (show Ext we w6 by exact eX)
            refine hK.out _ _ (held_of HB6.out) (fun hA => ?_)
            clear hK KK hA hqo hb6 hA0
            have hA0 : Hid ((fun w' => Ext (we) w' ∧ (∀ b o, b < (we).heap.size → w'.cell? ⟨b, o, none⟩ = (we).cell? ⟨b, o, none⟩) ∧ (∀ b o, b < (we).heap.size → w'.frozen? ⟨b, o, none⟩ = (we).frozen? ⟨b, o, none⟩)) w6) := held_of HB6.out
            refine HG.on 7 56 hA0.out ?_
            try simp only [Act.put, List.setIfInBounds_toArray, List.set_cons_zero, List.set_cons_succ]
            refine HG.on 8 64 hA0.out ?_
            try simp only [Act.put, List.setIfInBounds_toArray, List.set_cons_zero, List.set_cons_succ]
            refine HG.on 9 65 hA0.out ?_
            try simp only [Act.put, List.setIfInBounds_toArray, List.set_cons_zero, List.set_cons_succ]
            refine wpHd_one (i := 10) rfl rfl (by kernel_rfl) (fun KK hK => ?_)
            go_simp
            refine hK.out _ _ (held_of (by have := HB6.out; exact eX)) (fun hA => ?_)
            clear hK KK hA
            refine wpHd_one (i := 11) rfl rfl (by kernel_rfl) (fun KK hK => ?_)
            go_simp
            refine hK.out _ _ (held_of (by have := HB6.out; exact eX)) (fun hA => ?_)
            clear hK KK hA hA0
            refine wpHd_tail (by kernel_rfl) ?_
            simp only [List.drop_succ_cons, List.drop_zero]
            go_wp2
            go_meet
            case rel => exact ⟨_, qa, qc, rfl, rfl, Hid.mk' (Blk.new _ _ _), Hid.mk' ((RR.owned.in HQO.out).ext (by exact eX)), Hid.mk' (by have := HB6.out; exact eX)⟩
          · go_simp
            refine hK.out _ _ (held_of (by exact eX)) (fun hA => ?_)
            clear hK KK hA
            refine wpHd_one (i := 6) rfl rfl (by kernel_rfl) (fun KK hK => ?_)
            go_simp
            refine (HGT.out _ ((hE.out.trans HWE.out).trans (by exact eX))).mono ?_
            rintro e w6 ⟨⟨qr, qa, qc⟩, rfl, hqr, hqo, hb6⟩
            simp only at hqr; subst hqr
            have HQO := Hid.mk' (RR.owned.mono hqo (show we.heap.size + 1 ≤ _ by simp))
            have HB6 := Hid.mk' (show Ext we w6 by exact eX)
            have HX6 := Hid.mk' (show Blk w6 we.heap.size #[.int .u32 0, .int .u32 0, .string ⟨#[]⟩, .int .u8 0, .slice none 0 0] 99 from (Blk.drew (Blk.new we _ _)).ext hb6)
            have gX6 := HX6.out.cell
            have gX6f := HX6.out.frozen
            have zX6 := HX6.out.lt
            refine hK.out _ _ (held_of HB6.out) (fun hA => ?_)
            clear hK KK hA hqo hb6 hA0
            have hA0 : Hid ((fun w' => Ext (we) w' ∧ (∀ b o, b < (we).heap.size → w'.cell? ⟨b, o, none⟩ = (we).cell? ⟨b, o, none⟩) ∧ (∀ b o, b < (we).heap.size → w'.frozen? ⟨b, o, none⟩ = (we).frozen? ⟨b, o, none⟩)) w6) := held_of HB6.out
            refine HG.on 7 56 hA0.out ?_
            try simp only [Act.put, List.setIfInBounds_toArray, List.set_cons_zero, List.set_cons_succ]
            refine HG.on 8 64 hA0.out ?_
            try simp only [Act.put, List.setIfInBounds_toArray, List.set_cons_zero, List.set_cons_succ]
            refine HG.on 9 65 hA0.out ?_
            try simp only [Act.put, List.setIfInBounds_toArray, List.set_cons_zero, List.set_cons_succ]
            refine wpHd_one (i := 11) rfl rfl (by kernel_rfl) (fun KK hK => ?_)
            go_simp
            refine hK.out _ _ (held_of (by have := HB6.out; exact eX)) (fun hA => ?_)
            clear hK KK hA hA0
            refine wpHd_tail (by kernel_rfl) ?_
            simp only [List.drop_succ_cons, List.drop_zero]
            go_wp2
            go_meet
            case rel =>
              refine ⟨_, qa, qc, rfl, rfl, Hid.mk' (Blk.fiveT HX6.out), Hid.mk' ?_, Hid.mk' (by have := HB6.out; exact eX)⟩
              refine RR.owned.in (N := we.heap.size + 1) (q := ⟨⟨oid, ver, nm, id, cols⟩, qa, qc⟩) ?_
              unfold RR.owned
              repeat (with_reducible refine owns_set ?_ (by dsimp only; omega) _)
              exact HQO.out
        case rest =>
          obtain ⟨X, a2, c2, rfl, rfl, HBX, HSX, HEX⟩ := hcut
          have HEC := Hid.mk' (hE.out.trans (HWE.out.trans HEX.out))
          have HME := Hid.mk' (hmp.out.ext (HWE.out.trans HEX.out))
          have HXC := Hid.mk' (HXE.out.ext HEX.out)
          obtain ⟨xv, hrv, hlk⟩ := HME.out.look ho hv
          obtain ⟨a5, c5, qs, rfl, hrs5, hqs5⟩ := hrv
          have HRQ := Hid.mk' (fun W (h : Ext wc W) (h0 : Ext w W) => trows_any oid ver nm id cols a2 c2 ⟨⟨k1, ao1, av1, old1, b1, a1, r1, fl1⟩, ba1, bc1, aa1, ac1, ra1, rc1⟩ a5 c5 qs W (HSX.out.ext h) HC.out (HXL.out W h0) HXS.out (hrs5.ext h) (by
            have h1 := HTK.out.n ao1 av1
            rw [← hqs5, List.length_map] at h1
            exact h1) (fun q hq => HTK.out.r ao1 av1 _ (by rw [← hqs5]; exact List.mem_map_of_mem hq)))
          rw [hqs5] at HRQ
          unfold TRowsPost EL.agg at HRQ
          simp only at HRQ
          generalize rowsE cols (Tk ao1 av1) ⟨k1, ao1, av1, old1, b1, a1, r1, fl1⟩ = E7 at HRQ HXT2
          generalize rowsL cols (Tk ao1 av1) ⟨k1, ao1, av1, old1, b1, a1, r1, fl1⟩ = L7 at HRQ HST2
          clear gx zx l0 l1 lz hrs5 hqs5 HXE HSX
          have gx := HXC.out.cell
          have zx := HXC.out.lt
          have gX := HBX.out.cell
          have zX := HBX.out.lt
          go_wp2
          go_region_held3 (fun w' => Ext (wc) w' ∧ (∀ b o, b < (wc).heap.size → w'.cell? ⟨b, o, none⟩ = (wc).cell? ⟨b, o, none⟩) ∧ (∀ b o, b < (wc).heap.size → w'.frozen? ⟨b, o, none⟩ = (wc).frozen? ⟨b, o, none⟩)) ((exact held_of (by exact eX)))
            (first | (go_at_call 41; refine (HRQ.out _ (by exact eX) (HEC.out.trans (by exact eX))).mono ?_; rintro e w7 ⟨v7, rfl, hr7, hb7⟩; have HR7 := Hid.mk' hr7; have hE_w7 : Ext (wc) w7 := (by exact eX); obtain ⟨hc_w7, hf_w7⟩ := hE_w7.cells; have hz_w7 := hE_w7.size; clear hr7))
          by_cases h70 : E7 = 0
          case neg =>
            have hE71 : (E7 != 0) = true := by simpa using h70
            have HAB := Hid.mk' (HBN.out (by rw [HXT2.out]; exact h70))
            rw [HXT2.out, HRS.out] at HAB
            clear HBN HXT2 HST2 h70
            go_wp2
            go_ret2
            exact ApPost.same HAB.out HBS.out (HEC.out.trans (by exact eX))
          subst h70
          obtain ⟨D, hown, hle, hput⟩ := (HME.out.ext hE_w7).stored
          have HPUT := Hid.mk' (fun W' h1 h2 => hput W' ao1 av1 v7 L7 ho hv HIN.out h1 h2 HR7.out)
          have HE7 := Hid.mk' (HEC.out.trans hE_w7)
          have gx7 := (HXC.out.ext hE_w7).cell
          have zx7 := (HXC.out.ext hE_w7).lt
          clear gx zx gX zX hput hlk HBN HRQ hc_w7 hf_w7 hz_w7 hE_w7 hb7
          go_wp2_with (at_mapUpdate; refine wpList_mapUpdate_own _ rfl _ _ _ 91 rfl 68 66 Tryz.lawRef Tryz.underlying91 RV M (Maps.size D) D rfl hown (by unfold maxLen; omega) _ _ _ rfl rfl (keyRef ho hv) _ [] rfl ?_)
          intro w8 hown8 hgrow8
          have HM8 := Hid.mk' (HPUT.out w8 hown8 hgrow8)
          have HE8 := Hid.mk' (Ext.map HE7.out hgrow8 (Nat.le_of_lt HMW.out))
          clear hown8 hgrow8 hown hle HPUT gx7 zx7
          have hlt2 : k < es.length := HLT.out
          go_wp2
          go_roundg (es.length - (k + 1))
          case measure => omega
          case rel => exact ⟨k + 1, by omega, by go_num, Hid.mk' (by rw [HST2.out]; exact HM8.out), Hid.mk' (fun j hj => by
              by_cases e : j = k
              · subst e; exact HXT2.out
              · exact hz.out j (by omega)), HE8⟩
    · obtain rfl : k = es.length := by omega
      have HG := Hid.mk' (HGD2.out (fun i hi => hz.out i hi))
      rw [HRS.out] at HG hmp
      have HAW := Hid.mk' (HAT.out.ext hE.out)
      obtain ⟨cat2, cv2, m2, hat2, hca2, -⟩ := HBS.out
      obtain ⟨rfl, rfl⟩ : cat2 = cat ∧ m2 = m := by
        have h1 := hat2.cell0
        have h2 := hat2.cell1
        rw [HAT.out.cell0] at h1
        rw [HAT.out.cell1] at h2
        simp at h1 h2
        exact ⟨h1.symm, h2.symm⟩
      have HCA := Hid.mk' (hca2.ext hE.out)
      have l0 := HAW.out.cell0
      have l1 := HAW.out.cell1
      have lf := Blk.frozen HAW.out
      have lz : g < wr.heap.size := Blk.lt HAW.out
      clear hca2 hat2 HBD2 HRZ2 HHB
      go_wp2
      go_ret2
      have hk : Kp (fun x => x = g) wr (wr.setCell ⟨g, 1, none⟩ (.map (some M))) := Kp.set (S := fun x => x = g) ⟨g, 1, none⟩ _ rfl
      refine ⟨by rw [HG.out.1, HG.out.2.1]; rfl, ⟨cat2, cv2, M, Blk.set HAW.out 1 _, HCA.out.base HAW.out hk, ?_⟩, (Kp.of_ext hE.out).trans hk (fun x hx _ => hx)⟩
      rw [HG.out.2.2]
      exact hmp.out.base HAW.out hk

end Go.Proofs.YtkhlgoafeacdcaaGreat

/-
How many rows there are: the program's Len, a range over all tables of a map.
-/
namespace Go.Proofs.YtkhlgoafeacdcaaGreat
open Go.RowKit Go.Maps Go.Shelf
attribute [local go_sem] Oper.semAt_some

/-- A slice that comes out of the map. -/
abbrev SlV := Option Addr × Nat × Nat
def encV (x : SlV) : Array Value := #[.slice x.1 x.2.1 x.2.2]
def sumV (ys : List SlV) : Nat := (ys.map fun y => y.2.1).sum
/-- How many rows the tables have. -/
def lenT (rs : List Rl) (T : Tb) : Nat := (rs.map fun r => (T r.oid r.ver).length).sum
/-- How many rows there are in the tables that are still to come. -/
def leftT (rs : List Rl) (T : Tb) (left : Go.Lit → Bool) : Nat := lenT (rs.filter fun r => left (litR r.oid r.ver)) T
theorem leftT_none {rs : List Rl} {T : Tb} {left : Go.Lit → Bool} (h : ∀ kl, left kl = false) : leftT rs T left = 0 := by
  unfold leftT
  rw [List.filter_eq_nil_iff.2 (fun x _ => by rw [h]; simp)]; rfl
theorem leftT_all {rs : List Rl} {T : Tb} {left : Go.Lit → Bool} (h : ∀ r ∈ rs, left (litR r.oid r.ver) = true) : leftT rs T left = lenT rs T := by
  unfold leftT
  rw [List.filter_eq_self.2 h]
theorem lenT_strike {T : Tb} (p : Rl → Bool) {q : Rl → Bool} {r0 : Rl} : ∀ {l : List Rl}, Srt l → r0 ∈ l → p r0 = true → q r0 = false → (∀ r ∈ l, r ≠ r0 → q r = p r) → lenT (l.filter p) T = (T r0.oid r0.ver).length + lenT (l.filter q) T
  | [], _, h, _, _, _ => by cases h
  | a :: l, hs, h, hp, hq, hr => by
    have hs2 := List.pairwise_cons.1 hs
    have hne : ∀ x ∈ l, x ≠ a := fun x hx e => by
      have h1 := hs2.1 x hx
      rw [e] at h1
      exact ahead_irr h1
    by_cases e : a = r0
    · subst e
      rw [List.filter_cons_of_pos hp, List.filter_cons_of_neg (by rw [hq]; simp)]
      have : l.filter p = l.filter q := List.filter_congr (fun x hx => (hr x (List.mem_cons_of_mem _ hx) (hne x hx)).symm)
      rw [this]
      unfold lenT; simp
    · have h2 : r0 ∈ l := (List.mem_cons.1 h).elim (fun e2 => absurd e2.symm e) id
      have ih := lenT_strike (T := T) p hs2.2 h2 hp hq (fun r hr1 hr2 => hr r (List.mem_cons_of_mem _ hr1) hr2)
      have hqa := hr a (List.mem_cons_self ..) e
      cases hpa : p a with
      | true =>
        rw [List.filter_cons_of_pos hpa, List.filter_cons_of_pos (by rw [hqa]; exact hpa)]
        unfold lenT at ih ⊢
        rw [List.map_cons, List.map_cons, List.sum_cons, List.sum_cons, ih]; omega
      | false =>
        rw [List.filter_cons_of_neg (by rw [hpa]; simp), List.filter_cons_of_neg (by rw [hqa, hpa]; simp)]
        exact ih
theorem leftT_step {rs : List Rl} {T : Tb} {left : Go.Lit → Bool} {o v : Int} (hs : Srt rs) (hB : ∀ r ∈ rs, B32 r.oid ∧ B32 r.ver) (ho : B32 o) (hv : B32 v) (hin : hasR o v rs = true) (hl : left (litR o v) = true) :
    leftT rs T left = (T o v).length + leftT rs T (fun z => left z && !z.sameKey (litR o v)) := by
  unfold hasR at hin
  obtain ⟨r0, hr0, h1⟩ := List.any_eq_true.1 hin
  obtain ⟨rfl, rfl⟩ : r0.oid = o ∧ r0.ver = v := of_decide_eq_true h1
  have hk := WideAt.sameKey_self (Tryz.lawRef.key (keyRef ho hv))
  unfold leftT
  refine lenT_strike _ hs hr0 hl (by simp only [hk]; simp) (fun r hr hne => ?_)
  have h2 := hB r hr
  have h3 : (litR r.oid r.ver).sameKey (litR r0.oid r0.ver) = false := by
    cases h4 : (litR r.oid r.ver).sameKey (litR r0.oid r0.ver) with
    | false => rfl
    | true =>
      obtain ⟨e1, e2⟩ := litR_inj h2.1 h2.2 ho hv (WideAt.sameKey_eq h4)
      exact absurd (hs.uniq hr hr0 e1 e2) hne
  simp only [h3, Bool.not_false, Bool.and_true]
theorem has_of_at {D : DataW Value} (hD : IsMap D) {kl : Go.Lit} {c : Value} (h : ∀ zd, D.atKey kl zd = .held c) : Maps.has D kl = true := by
  obtain ⟨es, rfl⟩ := hD
  have h1 := h .nil
  unfold DataW.atKey at h1
  simp only at h1
  split at h1
  · rename_i p hp
    exact List.any_eq_true.2 ⟨p, List.mem_of_find?_eq_some hp, by have h2 := List.find?_some hp; simpa using h2⟩
  · cases h1

set_option maxRecDepth 100000 in
set_option maxHeartbeats 2000000 in
theorem values1_in (F : Fence) (n : Nat) (hF : F.fn 64) (hro : F.round = none) (hn : 1 ≤ n) (l Bm m : Nat) (rs : List Rl) (T : Tb) (J Jx : List SlV → World → Prop) (hs : Hid (Srt rs)) (hB : Hid (∀ r ∈ rs, B32 r.oid ∧ B32 r.ver))
    (hY : Hid (∀ pre x W, J pre W → pre.length < 1000 → YieldAt F (n - 1) Tryz.prog l (encV x) W fun e W' => (e = .returned (.bool true) ∧ J (pre ++ [x]) W' ∧ KeepsWalks W W') ∨ (e = .returned (.bool false) ∧ Jx (pre ++ [x]) W')))
    (W : World) (hJ : Hid (AbidesFrom W.heap.size J)) (hm : W.cell? ⟨Bm, 0, none⟩ = some (.map (some m))) (hmp : MapT W m rs T) (h0 : Hid (J [] W)) :
    CallsIn F n Tryz.prog 64 #[.func (.yield l) #[] #[], .pointer (some ⟨Bm, 0, none⟩)] W fun e W' => (∃ v, e = .returned v) ∧ ((∃ ys, sumV ys = lenT rs T ∧ J ys W') ∨ (∃ pre, True ∧ Jx pre W')) := by
  obtain ⟨D, hown, hle, hhas, hat0⟩ := hmp
  have HAS := Hid.mk' hhas
  have HAT := Hid.mk' hat0
  have HMAP := Hid.mk' hown.isMap
  have HLE := Hid.mk' hle.1
  have hbz : ∃ b, b = Bm := ⟨_, rfl⟩
  clear hhas hat0 hle hbz
  refine callsIn_of_wp Tryz.func64 rfl hF ?_ hro
  simp only [Tryz.ntmps64, List.size_toArray, List.length_cons, List.length_nil, Nat.reduceAdd, Nat.reduceSub, Array.replicate_succ, Array.replicate_zero, List.push_toArray, List.append_toArray, List.nil_append, List.cons_append]
  gi_wp2_with (first
    | (gi_at_range; refine wpListIn_range_own _ rfl _ 91 rfl 68 66 Tryz.lawRef Tryz.underlying91 RV m (Maps.size D) _ rfl hown ?_; intro w0 hrg0 hg0 hs0)
    | gi_in)
  go_frame
  gi_loopw [4] (fun _ wr => ∃ (left : Go.Lit → Bool) (cnt : Nat) (ys : List SlV), wr.ranges Tryz.prog 68 RV m W.heap.size (Maps.size D) D left cnt ∧ Hid (ys.length + cnt ≤ Maps.size D) ∧ Hid (sumV ys + leftT rs T left = lenT rs T) ∧ Hid (J ys wr))
    (fun _ wr => wr.rangeLeft m W.heap.size)
  case atStart =>
    exact ⟨_, _, [], hrg0, Hid.mk' (by simp), Hid.mk' (by
      rw [leftT_all (fun r hr => ?_)]
      · simp [sumV]
      · have h2 := hB.out r hr
        rw [HAS.out _ _ h2.1 h2.2]
        exact List.any_eq_true.2 ⟨r, hr, by simp [isR]⟩), Hid.mk' (hJ.out [] W w0 none h0.out hg0 (fun r e => by cases e))⟩
  case round =>
    obtain ⟨left, cnt, ys, hrg, hcs, hsum, hJs⟩ := hrel
    gi_wp2_with (first
      | (gi_at_next; refine wpListIn_next_ranges _ rfl _ rfl 68 Tryz.lawRef RV (fun (x : Int × Int) => Value.agg #[.int .u32 x.1, .int .u32 x.2]) (fun (v : Value) => v) (fun key kl hk => by obtain ⟨o, v, hx, _⟩ := keyRef_inv hk; exact ⟨(o, v), hx⟩) (fun v y _ => ⟨v, rfl⟩) m W.heap.size (Maps.size D) _ _ _ rfl hrg ?_ ?_)
      | gi_in)
    · intro hc0 hl0
      have HZ := Hid.mk' (leftT_none (rs := rs) (T := T) hl0)
      clear hl0 hc0
      gi_wp2
      go_end0
      exact ⟨⟨_, rfl⟩, .inl ⟨ys, by have := hsum.out; rw [HZ.out] at this; exact this, hJs.out⟩⟩
    · intro o v cv kl yd yp w2 cnt2 hkey hlk hv hat hrg2 hlt hg2 hs2 hen
      obtain ⟨o', v', ex, ho, hv', rfl⟩ := keyRef_inv hkey
      obtain ⟨rfl, rfl⟩ : o = o' ∧ v = v' := by simpa using ex
      obtain rfl : yd = .held cv := by unfold RV at hv; simp only [Option.some.injEq, Prod.mk.injEq] at hv; exact hv.1.symm
      have hh : hasR o v rs = true := by rw [← HAS.out o v ho hv']; exact has_of_at HMAP.out hat
      obtain ⟨xv, hxv, hrw⟩ := HAT.out o v ho hv'
      have hcx : cv = xv := by
        have h1 := hat (.held (.slice none 0 0))
        rw [hxv] at h1
        simpa using h1.symm
      obtain ⟨sa, sc, qs, hxs, -, hql⟩ := hrw
      rw [hxs] at hcx
      subst hcx
      have HST := Hid.mk' (leftT_step (T := T) hs.out hB.out ho hv' hh hlk)
      have HQL := Hid.mk' (show qs.length = (T o v).length by rw [← hql, List.length_map])
      have hJ2 : J ys w2 := hJ.out ys wr w2 (some W.heap.size) hJs.out hg2 (fun r e => by cases e; exact ⟨Nat.le_refl _, hrg.iter_walk⟩)
      obtain ⟨fn, tmps, assign, body, hy, hR⟩ := hY.out ys (sa, qs.length, sc) w2 hJ2 (by have := hcs.out; have := HLE.out; omega)
      dsimp only [encV] at hy
      clear hs2 hkey hlk hat hxv hh ex hql hv
      gi_wp2
      refine hR.mono ?_
      rintro e W3 (⟨rfl, hJ3, hk3⟩ | ⟨rfl, hJx3⟩)
      · have HJ3 := Hid.mk' hJ3
        clear hJ3
        gi_wp2
        have hrg3 := hrg2.of_walks hk3
        go_roundw
        case rel => exact ⟨_, cnt2, ys ++ [(sa, qs.length, sc)], hrg3, Hid.mk' (by have := hcs.out; simp; omega), Hid.mk' (by
          have h1 := hsum.out
          rw [HST.out] at h1
          unfold sumV at h1 ⊢
          rw [List.map_append, List.sum_append]
          simp only [List.map_cons, List.map_nil, List.sum_cons, List.sum_nil]
          have := HQL.out
          omega), HJ3⟩
        case measure => rw [hrg3.left_eq, hrg.left_eq]; exact hlt
      · have HJx3 := Hid.mk' hJx3
        clear hJx3
        gi_wp2
        refine bodyPost_ret (results_none rfl _ _ _) rfl ?_
        exact ⟨⟨_, rfl⟩, .inr ⟨_, trivial, HJx3.out⟩⟩

theorem values_stops (F : Fence) (n : Nat) (hF : F.fn 64) (hro : F.round = none) (hn : 1 ≤ n) (Bm m : Nat) (rs : List Rl) (T : Tb) (w : World) (hs : Srt rs) (hB : ∀ r ∈ rs, B32 r.oid ∧ B32 r.ver) (hBm : Bm < w.heap.size) (hm : w.cell? ⟨Bm, 0, none⟩ = some (.map (some m))) (hmp : MapT w m rs T) :
    SeqStopsK F n Tryz.prog 64 #[.pointer (some ⟨Bm, 0, none⟩)] encV KeepsWalks (fun ys => sumV ys = lenT rs T) (fun _ => True) 1000 w := fun l J Jx W hW hJ _ hY h0 =>
  values1_in F n hF hro hn l Bm m rs T J Jx hs hB hY W hJ ((hW.cell (p := ⟨Bm, 0, none⟩) hBm).trans hm) (hmp.ext hW) h0
set_option maxRecDepth 20000 in set_option maxHeartbeats 400000 in
theorem values_in (F : Fence) (n : Nat) (hf : F.fn 37) (hro : F.round = none) (mb : Option Nat) (w : World) :
    CallsIn F n Tryz.prog 37 #[.map mb] w fun e w' => e = .returned (.func (.func 64) #[] #[.pointer (some ⟨w.heap.size, 0, none⟩)]) ∧ w' = w.alloc (.cells #[.map mb] 91) := by
  refine callsIn_of_wp Tryz.func37 rfl hf ?_ hro
  simp only [Tryz.ntmps37, List.size_toArray, List.length_cons, List.length_nil, Nat.reduceAdd, Nat.reduceSub, Array.replicate_succ, Array.replicate_zero, List.push_toArray, List.append_toArray, List.nil_append, List.cons_append]
  gi_wp2
  go_ret
  exact ⟨rfl, rfl⟩

/-- The sum as the program adds it up. -/
def addV (ys : List SlV) : Int := ys.foldl (fun s y => wrap64 (s + (y.2.1 : Int))) 0
theorem addV_snoc (ys : List SlV) (y : SlV) : addV (ys ++ [y]) = wrap64 (addV ys + (y.2.1 : Int)) := by unfold addV; rw [List.foldl_append]; rfl
theorem addV_sum {ys : List SlV} (h : sumV ys ≤ 9223372036854775807) : addV ys = sumV ys := by
  have key : ∀ (ys : List SlV) (s : Nat), s + sumV ys ≤ 9223372036854775807 → ys.foldl (fun s y => wrap64 (s + (y.2.1 : Int))) (s : Int) = ((s + sumV ys : Nat) : Int) := by
    intro ys
    induction ys with
    | nil => intro s _; simp [sumV]
    | cons y ys ih =>
      intro s h
      have e : sumV (y :: ys) = y.2.1 + sumV ys := by unfold sumV; simp
      rw [e] at h ⊢
      have e2 : wrap64 ((s : Int) + (y.2.1 : Int)) = ((s + y.2.1 : Nat) : Int) := by unfold wrap64; omega
      rw [List.foldl_cons, e2, ih (s + y.2.1) (by omega)]
      congr 1; omega
  have := key ys 0 (by omega)
  unfold addV
  simpa using this

set_option maxRecDepth 100000 in
set_option maxHeartbeats 2000000 in
theorem blen_in (F : Fence) (n : Nat) (h1F : F.fn 64) (hVF : F.fn 37) (hLF : F.fn 11) (hro : F.round = none) (hn : 3 ≤ n) (N g : Nat) (ps : List RR) (T : Tb) (w : World) (hb : Bs w N g ps T) (hB : ∀ p ∈ ps, B32 p.r.oid ∧ B32 p.r.ver) (hs : lenT (ps.map RR.r) T ≤ 9223372036854775807) :
    CallsIn F n Tryz.prog 11 #[.pointer (some ⟨g, 0, none⟩)] w fun e w' => e = .returned (.int .i64 (lenT (ps.map RR.r) T : Nat)) ∧ Ext w w' := by
  have h1 : 1 ≤ n := by omega
  obtain ⟨cat, cv, m, hat, hca, hmp⟩ := hb
  have HSR := Hid.mk' hca.ok.srt
  have HB := Hid.mk' (show ∀ r ∈ ps.map RR.r, B32 r.oid ∧ B32 r.ver from fun r hr => by
    obtain ⟨p, hp, rfl⟩ := List.mem_map.1 hr
    exact hB p hp)
  have HMP := Hid.mk' hmp
  have HSL := Hid.mk' hs
  have l0 := hat.cell0
  have l1 := hat.cell1
  have lz : g < w.heap.size := Blk.lt hat
  clear hat hca hmp hB hs
  refine callsIn_of_wp_marks Tryz.func11 rfl hLF ?_ hro
  simp only [Tryz.ntmps11, List.size_toArray, List.length_cons, List.length_nil, Nat.reduceAdd, Nat.reduceSub, Array.replicate_succ, Array.replicate_zero, List.push_toArray, List.append_toArray, List.nil_append, List.cons_append]
  gi_wp2_with (gi_at_call 37; refine (values_in F (n - 1) hVF hro _ _).mono ?_; rintro e w' ⟨rfl, rfl⟩)
  obtain ⟨W0, hW0⟩ : ∃ W0, W0 = (w.alloc (.cells #[.int .i64 0] 3)).alloc (.cells #[.map (some m)] 91) := ⟨_, rfl⟩
  have hz0 : W0.heap.size = w.heap.size + 2 := by rw [hW0]; simp
  have hE0 : Ext w W0 := by rw [hW0]; exact eX
  have hB0 : Blk W0 w.heap.size #[.int .i64 0] 3 := by rw [hW0]; exact (Blk.new _ _ _).alloc _
  have hB1 : Blk W0 (w.heap.size + 1) #[.map (some m)] 91 := by rw [hW0]; exact Blk.new' _ _ (by simp)
  have hBW : Below w.heap.size w W0 := hE0
  rw [← hW0]
  clear hW0 l0 l1
  refine wpIn_rangeFunc_ownF hro h1 (gf := 64) (lb := #[.pointer (some ⟨w.heap.size + 1, 0, none⟩)]) rfl h1F (enters_of Tryz.func64 (by kernel_rfl) rfl)
    (values_stops F (n - 1) h1F hro (by omega) (w.heap.size + 1) m (ps.map RR.r) T W0 HSR.out HB.out hB1.lt (hB1.cell 0) (HMP.out.ext hE0)) walksK_t walksK_b (Below.refl _ _) (fun _ => rfl)
    (fun pre W => (W.cell? ⟨w.heap.size, 0, none⟩ = some (.int .i64 (addV pre)) ∧ W.frozen? ⟨w.heap.size, 0, none⟩ = false ∧ w.heap.size < W.heap.size) ∧ Below w.heap.size w W)
    (fun _ _ _ => False)
    (OwnFrom.and (Own.from (fun s A B row hs hg hr => ⟨cell_kept hs.1 hg hr, (frozen_kept hs.1 hg hr).trans hs.2.1, Nat.lt_of_lt_of_le hs.2.2 hg.size⟩) _) (ownFrom_below (Nat.le_refl _) (by omega)))
    (fun c => fun s A B row hs hg hr => hs)
    ⟨⟨hB0.cell 0, hB0.frozen 0, hB0.lt⟩, hBW⟩
    (fun x => { tmps := #[.pointer (some ⟨g, 0, none⟩), undef, .int .i64 0, .pointer (some ⟨w.heap.size, 0, none⟩), .slice x.1 x.2.1 x.2.2, .pointer (some ⟨g, 0, none⟩), .pointer (some ⟨g, 0, none⟩), .pointer (some ⟨g, 1, none⟩), .map (some m), .func (.func 64) #[] #[.pointer (some ⟨w.heap.size + 1, 0, none⟩)], .slice x.1 x.2.1 x.2.2, undef, undef, undef, undef, undef], defers := [] }) ?assign ?body ?done ?stop
  case assign =>
    intro l x W K hK
    unfold encV
    gi_wp2
    exact hK
  case body =>
    rintro l pre x W ⟨⟨hc, hf, hz⟩, hB⟩ _
    gi_wp2
    exact ⟨KeepsOthers.setCell _ _ _, (KeepsOthers.setCell _ _ _).walks, ⟨by rw [addV_snoc]; exact World.cell?_setCell_same' _ _ _ (by rw [hc]; rfl), by simpa using hf, by simpa using hz⟩, hB.setCell (p := ⟨w.heap.size, 0, none⟩) (Nat.le_refl _) _⟩
  case done =>
    rintro D ys W hD hys ⟨⟨hc, hf, hz⟩, hB⟩ hK
    gi_wp2
    refine ⟨by simp, .inl ⟨_, _, rfl, run_takeDeferred hK, ?_⟩⟩
    refine ⟨.int .i64 (addV ys), ?_, by rw [addV_sum (by rw [hys]; exact HSL.out), hys], hB.trans (belowK_b (w := w) (Nat.le_refl _) _ D _ _ (by omega) hK rfl rfl)⟩
    simp [results, Tryz.f11, go_sem]
  case stop => exact fun _ _ _ _ _ _ h _ => h.elim

theorem blen_any (N g : Nat) (ps : List RR) (T : Tb) (w : World) (hb : Bs w N g ps T) (hB : ∀ p ∈ ps, B32 p.r.oid ∧ B32 p.r.ver) (hs : lenT (ps.map RR.r) T ≤ 9223372036854775807) :
    Calls Tryz.prog 11 #[.pointer (some ⟨g, 0, none⟩)] w fun e w' => e = .returned (.int .i64 (lenT (ps.map RR.r) T : Nat)) ∧ Ext w w' :=
  callsIn_wide.1 (blen_in Fence.wide 3 trivial trivial trivial rfl (Nat.le_refl _) N g ps T w hb hB hs)

end Go.Proofs.YtkhlgoafeacdcaaGreat

/-
All events gathered beside two bases: what stands in memory.
-/
namespace Go.Proofs.YtkhlgoafeacdcaaGreat
open Go.RowKit Go.Maps

theorem EL.nostr (l : List EL) : ∀ u ∈ (l.map EL.vals).flatten, noStr u := by
  intro u hu s e
  subst e
  obtain ⟨xs, h1, h2⟩ := List.mem_flatten.1 hu
  obtain ⟨q, -, rfl⟩ := List.mem_map.1 h1
  simp [EL.vals] at h2
theorem vx_nostr {v : Value} (h : noStr v) : ∀ u ∈ (#[.int .u32 1, .int .u64 0, v] : Array Value).toList, noStr u := by
  intro u hu s e
  subst e
  simp at hu
  exact h s hu.symm
/-- Two bases, one turned, and all events that were done there. -/
structure OneM (w6 wr : World) (Nx Gx Ny Gy X8 NT : Nat) (qx qy : List RR) (T : Tb) (al : List EL) (v : Value) : Prop where
  x : Bs wr Nx Gx qx T
  y : Bs wr Ny Gy qy T0
  blk : Blk wr X8 #[.int .u32 1, .int .u64 0, v] 34
  own : wr.ownsRow w6.heap.size 103 8 v al.length (al.map EL.vals).flatten
  no : ∀ b, v.ownBlock = some b → AllIn wr b noStr
  sl : ∀ e ∈ al, e.at 5 K.pc wr
  on : ∀ e ∈ al, e.on (fun b => NT ≤ b ∧ b < w6.heap.size)
  kp : Kp (fun x => x = Gx ∨ x = X8) w6 wr
section
variable {w6 wr w7 : World} {Nx Gx Ny Gy X8 NT : Nat} {qx qy : List RR} {T T' : Tb} {al es : List EL} {v v' : Value}
theorem AllIn.kp {S : Nat → Prop} {p : Value → Prop} {b : Nat} (h : AllIn wr b p) (hb : b < wr.heap.size) (hk : Kp S wr w7) (hs : ¬ S b) : AllIn w7 b p := fun cs t h1 => h cs t (by rw [← hk.block b hb hs]; exact h1)
theorem OneM.turn (h : OneM w6 wr Nx Gx Ny Gy X8 NT qx qy T al v) (hk : Kp (fun x => x = Gx) wr w7) (hb : Bs w7 Nx Gx qx T') (hxy : Gy ≠ Gx) (hx8 : X8 ≠ Gx) (hn : Gx < NT) (hm : Gx < w6.heap.size) : OneM w6 w7 Nx Gx Ny Gy X8 NT qx qy T' al v := by
  refine ⟨hb, h.y.base h.x hxy hk, h.blk.kp hk hx8, owns_kp h.own hk (fun b hb e => ?_), fun b hb => (h.no b hb).kp (owns_lt3 h.own hb).2 hk (fun e => ?_), fun e he => (h.sl e he).kp hk ((h.on e he).mono fun b hb e2 => ?_), h.on, ?_⟩
  · have := owns_lt3 h.own hb; have e : b = Gx := e; omega
  · have := owns_lt3 h.own hb; have e : b = Gx := e; omega
  · have e2 : b = Gx := e2; omega
  · exact h.kp.trans hk (fun x hx _ => .inl hx)
theorem OneM.ext (h : OneM w6 wr Nx Gx Ny Gy X8 NT qx qy T al v) (he : Ext wr w7) : OneM w6 w7 Nx Gx Ny Gy X8 NT qx qy T al v :=
  ⟨h.x.ext he, h.y.ext he, h.blk.ext he, owns_ext h.own he, fun b hb => (h.no b hb).kp (S := fun _ => False) (owns_lt3 h.own hb).2 (Kp.of_ext he) (fun h => h), fun e hm => (h.sl e hm).ext he, h.on, h.kp.trans (T := fun _ => False) (Kp.of_ext he) (fun _ h => h.elim)⟩
theorem OneM.quiet (h : OneM w6 wr Nx Gx Ny Gy X8 NT qx qy T al v) : (∀ b, v.ownBlock = some b → Quiet wr b) ∧ Quiet wr X8 := by
  refine ⟨fun b hb => ⟨?_, h.no b hb⟩, ⟨⟨_, _, h.blk, .inl rfl⟩, fun cs t h1 => ?_⟩⟩
  · rcases h.own.2 with ⟨rfl, -⟩ | ⟨g, cap, cur, rfl, -, h2, -⟩
    · cases hb
    · have hb : g = b := by simpa [Value.ownBlock] using hb
      subst hb
      exact ⟨cur, _, h2, .inr rfl⟩
  · have h2 := h.blk
    unfold Blk at h2
    rw [h2] at h1
    simp only [Option.some.injEq, Obj.cells.injEq] at h1
    obtain ⟨rfl, -, -⟩ := h1
    refine vx_nostr (fun s e => ?_)
    obtain ⟨a, c, rfl⟩ := owns_shape h.own
    cases e
/-- Events are appended: the tables, the transaction stand till the new row is stored. -/
theorem OneM.grown (h : OneM w6 wr Nx Gx Ny Gy X8 NT qx qy T al v) (hg : wr.grownBy w7 v.ownBlock) (h8 : X8 < w6.heap.size) : Bs w7 Nx Gx qx T ∧ Bs w7 Ny Gy qy T0 ∧ Blk w7 X8 #[.int .u32 1, .int .u64 0, v] 34 ∧ Kp (fun x => x = Gx ∨ x = X8) w6 w7 := by
  have hq := h.quiet.1
  refine ⟨h.x.quiet hg hq, h.y.quiet hg hq, h.blk.kp (Kp.of_grown hg) (fun e => ?_), h.kp.trans (Kp.of_grown hg) (fun x hx hl => ?_)⟩
  · have := owns_lt3 h.own e; omega
  · have := owns_lt3 h.own hx; omega
theorem OneM.push (h : OneM w6 wr Nx Gx Ny Gy X8 NT qx qy T al v) (hg : wr.grownBy w7 v.ownBlock) (h8 : X8 < w6.heap.size) (h8n : X8 < NT)
    (hs : ∀ e ∈ es, e.at 5 K.pc wr) (ho : ∀ e ∈ es, e.on (fun b => NT ≤ b ∧ b < w6.heap.size))
    (hown : w7.ownsRow w6.heap.size 103 8 v' (al.length + es.length) ((al.map EL.vals).flatten ++ (es.map EL.vals).flatten)) (hno : ∀ b, v'.ownBlock = some b → AllIn w7 b noStr) :
    OneM w6 (w7.setCell ⟨X8, 2, none⟩ v') Nx Gx Ny Gy X8 NT qx qy T (al ++ es) v' := by
  obtain ⟨b1, b2, b3, b4⟩ := h.grown hg h8
  have hk : Kp (fun x => x = X8) w7 (w7.setCell ⟨X8, 2, none⟩ v') := Kp.set _ _ rfl
  have hq8 : Quiet w7 X8 := h.quiet.2.kp (Kp.of_grown hg) (fun e => by have := owns_lt3 h.own e; omega)
  have hg8 := grown_of_kp hk
  have hqq : ∀ b, some X8 = some b → Quiet w7 b := fun b e => by injection e with e; rw [← e]; exact hq8
  have hall : ∀ e ∈ al ++ es, e.at 5 K.pc wr ∧ e.on (fun b => NT ≤ b ∧ b < w6.heap.size) := fun e he => by
    rcases List.mem_append.1 he with he | he
    · exact ⟨h.sl e he, h.on e he⟩
    · exact ⟨hs e he, ho e he⟩
  refine ⟨b1.quiet hg8 hqq, b2.quiet hg8 hqq, ?_, ?_, fun b hb => (hno b hb).kp (owns_lt3 hown hb).2 hk (fun e => ?_), fun e he => ?_, fun e he => (hall e he).2, b4.trans hk (fun x hx _ => .inr hx)⟩
  · have := b3.set 2 v'
    simpa only [List.setIfInBounds_toArray, List.set_cons_zero, List.set_cons_succ] using this
  · rw [List.map_append, List.flatten_append, List.length_append]
    refine owns_kp hown hk (fun b hb e => ?_)
    have := owns_lt3 hown hb; have e : b = X8 := e; omega
  · have := owns_lt3 hown hb; have e : b = X8 := e; omega
  · have h1 : e.at 5 K.pc w7 := (hall e he).1.kp (Kp.of_grown hg) ((hall e he).2.mono fun b hb e2 => by have := owns_lt3 h.own e2; omega)
    exact h1.kp hk ((hall e he).2.mono fun b hb e2 => by have e2 : b = X8 := e2; omega)
theorem OneM.row (h : OneM w6 wr Nx Gx Ny Gy X8 NT qx qy T al v) : ES 5 K.pc wr v al := ⟨Sl.of_owns (base := w6.heap.size) (e := 103) (by rw [List.length_map]; exact h.own) (EL.len al), h.sl⟩
end
theorem lenT_le {rs : List Rl} {T : Tb} {n : Nat} (h : TbOk T n) : lenT rs T ≤ rs.length * n := by
  induction rs with
  | nil => exact Nat.zero_le _
  | cons r l ih =>
    unfold lenT at ih ⊢
    rw [List.map_cons, List.sum_cons, List.length_cons, Nat.add_mul]
    have := h.n r.oid r.ver
    omega
/-- What is wrong with no transaction that is done. -/
theorem ap_zero {rs : List Rl} {T : Tb} {t : Tx} (h : apE rs T t = 0) : apP rs T t = -1 := by
  unfold apE at h
  unfold apP
  split at h
  · rename_i h0; exact absurd h h0
  · rename_i h0
    rw [if_neg h0, if_pos h]
theorem ap_kept {rs : List Rl} {T : Tb} {t : Tx} (h : apE rs T t ≠ 0) : apT rs T t = T := by unfold apT; rw [if_pos h]

end Go.Proofs.YtkhlgoafeacdcaaGreat

/-
The laws' own catalog of the arguments' relations; whether they make one.
-/
namespace Go.Proofs.YtkhlgoafeacdcaaGreat
open Go.RowKit

set_option maxRecDepth 100000 in set_option maxHeartbeats 4000000 in
theorem in16_any (ps : List RR) (a : Option Addr) (cap : Nat) (w : World) (hl : RL w (.slice a ps.length cap) ps) (hb : ∀ p ∈ ps, p.r.wb) (hlen : ps.length ≤ 9223372036854775807) :
    Calls Tryz.prog 7 #[.slice a ps.length cap] w fun e w' => e = .returned (.bool (decide (ofE (ps.map RR.r) = 0))) ∧ Ext w w' := by
  have HRA := Hid.mk' (rof_any ps a cap w hl hb hlen)
  unfold ROfPost at HRA
  obtain ⟨EA, hEA⟩ : ∃ E, E = ofE (ps.map RR.r) := ⟨_, rfl⟩
  rw [← hEA] at HRA ⊢
  clear hl hb hlen hEA
  go_enter Tryz.func7, Tryz.ntmps7
  go_wp2_with (go_at_call 16; refine HRA.out.mono ?_; rintro e w1 ⟨aw, cw, n, rfl, -, -, hb1⟩; have HB1 := Hid.mk' hb1; clear hb1)
  simp [bodyPost, results, Tryz.results7, go_sem]
  exact ⟨by first | rfl | (rw [Bool.eq_iff_iff]; simp), HB1.out⟩

def Own16Post (ps : List RR) (w : World) (e : Ending) (w' : World) : Prop := ∃ g c qs, e = .returned (.pointer (some ⟨g, 0, none⟩)) ∧ w.heap.size ≤ g ∧ Ca w' g g c qs ∧ qs.map RR.r = ofUp (ps.map RR.r) ps.length ∧ Ext w w'
set_option maxRecDepth 100000 in set_option maxHeartbeats 4000000 in
theorem own16_any (ps : List RR) (a : Option Addr) (cap : Nat) (w : World) (hl : RL w (.slice a ps.length cap) ps) (hb : ∀ p ∈ ps, p.r.wb) (hlen : ps.length ≤ 1000) (h0 : ofE (ps.map RR.r) = 0) :
    Calls Tryz.prog 8 #[.slice a ps.length cap] w (Own16Post ps w) := by
  have HOA := Hid.mk' (own9_any ps a cap w hl hlen hb)
  have HB := Hid.mk' hb
  have HEA := Hid.mk' h0
  clear hl hb h0
  go_enter Tryz.func8, Tryz.ntmps8
  go_wp2_with (first
    | (go_at_call 32; refine HOA.out.mono ?_; rintro e w3 ⟨a2', c2', qs2, rfl, ho2, hb2⟩; have HB3 := Hid.mk' hb2; have HOF := Hid.mk' (cof_any qs2 a2' c2' w3 (by rw [ho2.len]; exact ho2.rl) ho2.cap (ho2.wb HB.out) (by rw [ho2.len]; exact hlen)); rw [ho2.rs, ho2.len] at HOF; unfold COfPost at HOF; rw [HEA.out] at HOF; clear ho2 hb2)
    | (go_at_call 31; refine HOF.out.mono ?_; rintro e w4 ⟨pv, rfl, h1, -, hb3⟩; obtain ⟨rfl, cc, qc, hcc, hqc⟩ := h1 (by first | exact rfl | exact trivial); have HCC := Hid.mk' hcc; have HQC := Hid.mk' hqc; have HB4 := Hid.mk' (HB3.out.trans hb3); clear h1 hcc hqc hb3))
  have hz : w.heap.size ≤ w3.heap.size := HB3.out.size
  simp [bodyPost, results, Tryz.results8, go_sem]
  exact ⟨_, cc, qc, rfl, hz, HCC.out, by rw [HQC.out, List.length_map], HB4.out⟩

end Go.Proofs.YtkhlgoafeacdcaaGreat
