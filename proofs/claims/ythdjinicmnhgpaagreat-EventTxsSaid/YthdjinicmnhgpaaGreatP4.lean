/-
Events that lie somewhere, in rows; transactions.
-/
import Derived.Deep.RegionHeld
import Derived.Maps.AppendAt
import Derived.Shelf.SlSortCmp.NoneTotal
import Derived.Lib.SlicesCompact
import Derived.Lib.SliceRun
import Derived.Test.YthdjinicmnhgpaaGreatP3
namespace Go.Proofs.YthdjinicmnhgpaaGreat
open Go.RowKit

/-- An event that lies somewhere: its rows and its refs. -/
structure EL where
  e : Ev
  ba : Option Addr
  bc : Nat
  aa : Option Addr
  ac : Nat
  ra : Option Addr
  rc : Nat
def EL.vals (x : EL) : List Value := [.int .u8 x.e.kind, .int .u32 x.e.ao, .int .u32 x.e.av, .int .u8 x.e.old, .slice x.ba x.e.b.length x.bc, .slice x.aa x.e.a.length x.ac, .slice x.ra x.e.rs.length x.rc, .int .u8 x.e.fl]
def EL.agg (x : EL) : Value := .agg #[.int .u8 x.e.kind, .int .u32 x.e.ao, .int .u32 x.e.av, .int .u8 x.e.old, .slice x.ba x.e.b.length x.bc, .slice x.aa x.e.a.length x.ac, .slice x.ra x.e.rs.length x.rc, .int .u8 x.e.fl]
/-- A row of cells, n values each, f of each. -/
abbrev Kr (n : Nat) (f : K → List Value) (W : World) (a : Option Addr) (c : Nat) (l : List K) : Prop := Sl W (.slice a l.length c) n (l.map f)
/-- All that it has lies there. -/
structure EL.at (n : Nat) (f : K → List Value) (W : World) (x : EL) : Prop where
  b : Kr n f W x.ba x.bc x.e.b
  a : Kr n f W x.aa x.ac x.e.a
  r : Sl W (.slice x.ra x.e.rs.length x.rc) 2 (x.e.rs.map Rf.cells)
/-- Whatever it has lies in blocks of S. -/
structure EL.on (S : Nat → Prop) (x : EL) : Prop where
  b : x.e.b ≠ [] → ∀ b o, x.ba = some ⟨b, o, none⟩ → S b
  a : x.e.a ≠ [] → ∀ b o, x.aa = some ⟨b, o, none⟩ → S b
  r : x.e.rs ≠ [] → ∀ b o, x.ra = some ⟨b, o, none⟩ → S b
theorem map_ne {α β : Type} {f : α → β} {l : List α} (h : l.map f ≠ []) : l ≠ [] := fun e => h (by rw [e]; rfl)
theorem Sl.lt {W : World} {b n c k : Nat} {xss : List (List Value)} {o' : Nat} (h : Sl W (.slice (some ⟨b, o', none⟩) n c) k xss) (h0 : xss ≠ []) : b < W.heap.size := by
  obtain ⟨b2, o2, e, hb, -⟩ := h.at_ (i := 0) (List.length_pos_iff.2 h0)
  simp only [Option.some.injEq, Addr.mk.injEq] at e
  rw [e.1]; exact hb
section
variable {S T : Nat → Prop} {n : Nat} {f : K → List Value} {W W' : World} {x : EL}
theorem EL.on.mono (h : x.on S) (hs : ∀ b, S b → T b) : x.on T := ⟨fun h0 b o e => hs b (h.b h0 b o e), fun h0 b o e => hs b (h.a h0 b o e), fun h0 b o e => hs b (h.r h0 b o e)⟩
theorem EL.on.and (h : x.on S) (k : x.on T) : x.on (fun b => S b ∧ T b) := ⟨fun h0 b o e => ⟨h.b h0 b o e, k.b h0 b o e⟩, fun h0 b o e => ⟨h.a h0 b o e, k.a h0 b o e⟩, fun h0 b o e => ⟨h.r h0 b o e, k.r h0 b o e⟩⟩
theorem EL.at.ext (h : x.at n f W) (he : Ext W W') : x.at n f W' := ⟨h.b.ext he, h.a.ext he, h.r.ext he⟩
theorem EL.at.kp (h : x.at n f W) (hk : Kp S W W') (hs : x.on (fun b => ¬ S b)) : x.at n f W' := ⟨h.b.kp hk (fun h0 => hs.b (map_ne h0)), h.a.kp hk (fun h0 => hs.a (map_ne h0)), h.r.kp hk (fun h0 => hs.r (map_ne h0))⟩
theorem EL.at.lt (h : x.at n f W) : x.on (fun b => b < W.heap.size) :=
  ⟨fun h0 b o e => Sl.lt (by have := h.b; unfold Kr at this; rw [e] at this; exact this) (fun q => h0 (by simpa using q)), fun h0 b o e => Sl.lt (by have := h.a; unfold Kr at this; rw [e] at this; exact this) (fun q => h0 (by simpa using q)), fun h0 b o e => Sl.lt (by have := h.r; rw [e] at this; exact this) (fun q => h0 (by simpa using q))⟩
end

theorem EL.at_ {w wr : World} {b o : Nat} {l : List EL} {k : Nat} (hk : k < l.length) (hc : ∀ j, j < 8 → w.cell? ⟨b, o + k * 8 + j, none⟩ = ((l.map EL.vals).getD k [])[j]?) (hb : b < w.heap.size) (hE : Ext w wr) :
    wr.cell? ⟨b, o + k * 8, none⟩ = some (.int .u8 l[k].e.kind) ∧ wr.cell? ⟨b, o + k * 8 + 1, none⟩ = some (.int .u32 l[k].e.ao) ∧ wr.cell? ⟨b, o + k * 8 + 2, none⟩ = some (.int .u32 l[k].e.av) ∧ wr.cell? ⟨b, o + k * 8 + 3, none⟩ = some (.int .u8 l[k].e.old) ∧
      wr.cell? ⟨b, o + k * 8 + 4, none⟩ = some (.slice l[k].ba l[k].e.b.length l[k].bc) ∧ wr.cell? ⟨b, o + k * 8 + 5, none⟩ = some (.slice l[k].aa l[k].e.a.length l[k].ac) ∧ wr.cell? ⟨b, o + k * 8 + 6, none⟩ = some (.slice l[k].ra l[k].e.rs.length l[k].rc) ∧ wr.cell? ⟨b, o + k * 8 + 7, none⟩ = some (.int .u8 l[k].e.fl) := by
  rw [getD_map EL.vals l hk] at hc
  have c := hE.cells.1 b
  exact ⟨(c _ hb).trans (hc 0 (by omega)), (c _ hb).trans (hc 1 (by omega)), (c _ hb).trans (hc 2 (by omega)), (c _ hb).trans (hc 3 (by omega)), (c _ hb).trans (hc 4 (by omega)), (c _ hb).trans (hc 5 (by omega)), (c _ hb).trans (hc 6 (by omega)), (c _ hb).trans (hc 7 (by omega))⟩
theorem EL.len (l : List EL) : ∀ xs ∈ l.map EL.vals, xs.length = 8 := by
  intro xs hxs
  rw [List.mem_map] at hxs
  obtain ⟨p, _, rfl⟩ := hxs
  rfl
theorem EL.one (x : EL) : ∀ u ∈ x.vals, u.oneCell' = true := by
  intro u hu
  simp [EL.vals] at hu
  rcases hu with rfl | rfl | rfl | rfl | rfl | rfl | rfl | rfl <;> rfl

/-- Events in a row, all that they have lies there. -/
structure ES (n : Nat) (f : K → List Value) (W : World) (v : Value) (xs : List EL) : Prop where
  row : Sl W v 8 (xs.map EL.vals)
  sl : ∀ x ∈ xs, x.at n f W
section
variable {S T : Nat → Prop} {n : Nat} {f : K → List Value} {W W' : World} {xs : List EL} {v : Value}
theorem ES.ext (h : ES n f W v xs) (he : Ext W W') : ES n f W' v xs := ⟨h.row.ext he, fun x hx => (h.sl x hx).ext he⟩
theorem ES.kp {a : Option Addr} {m c : Nat} (h : ES n f W (.slice a m c) xs) (hk : Kp S W W') (hs : xs ≠ [] → ∀ b o, a = some ⟨b, o, none⟩ → ¬ S b) (hx : ∀ x ∈ xs, x.on (fun b => ¬ S b)) : ES n f W' (.slice a m c) xs :=
  ⟨h.row.kp hk (fun h0 => hs (map_ne h0)), fun x hm => (h.sl x hm).kp hk (hx x hm)⟩
end

/-- Events of the call's own, in a row of its own, all from N on. -/
structure OwnE (n : Nat) (f : K → List Value) (T : TypeId) (W : World) (N : Nat) (es : List Ev) (v : Value) (qs : List EL) : Prop where
  own : W.ownsRow N T 8 v qs.length (qs.map EL.vals).flatten
  e : qs.map EL.e = es
  sl : ∀ q ∈ qs, q.at n f W
  ne : ∀ q ∈ qs, q.on (fun b => N ≤ b ∧ v.ownBlock ≠ some b)
section
variable {S : Nat → Prop} {n : Nat} {f : K → List Value} {T : TypeId} {W W' : World} {N : Nat} {es : List Ev} {v v' : Value} {qs : List EL} {q : EL}
theorem OwnE.nil (W : World) (N : Nat) : OwnE n f T W N [] (.slice none 0 0) [] := ⟨World.ownsRow_nil _ _ _ _, rfl, (fun q h => by cases h), (fun q h => by cases h)⟩
theorem OwnE.len (h : OwnE n f T W N es v qs) : qs.length = es.length := by rw [← h.e, List.length_map]
theorem OwnE.kp (h : OwnE n f T W N es v qs) (hk : Kp S W W') (h1 : ∀ b, v.ownBlock = some b → ¬ S b) (h2 : ∀ q ∈ qs, q.on (fun b => ¬ S b)) : OwnE n f T W' N es v qs :=
  ⟨owns_kp h.own hk h1, h.e, fun q hq => (h.sl q hq).kp hk (h2 q hq), h.ne⟩
theorem OwnE.ext (h : OwnE n f T W N es v qs) (he : Ext W W') : OwnE n f T W' N es v qs :=
  ⟨owns_ext h.own he, h.e, fun q hq => (h.sl q hq).ext he, h.ne⟩
/-- Where only what is not of its own was written. -/
theorem OwnE.low (h : OwnE n f T W N es v qs) (hk : Kp S W W') (h1 : ∀ b, S b → b < N ∨ W.heap.size ≤ b) : OwnE n f T W' N es v qs :=
  h.kp hk (fun b hb hs => by have := owns_lt3 h.own hb; have := h1 b hs; omega) (fun q hq => ((h.ne q hq).and (h.sl q hq).lt).mono (fun b hb hs => by have := h1 b hs; omega))
theorem OwnE.base (h : OwnE n f T W N es v qs) {M : Nat} (hm : M ≤ N) : OwnE n f T W M es v qs := ⟨owns_base h.own hm, h.e, h.sl, fun q hq => (h.ne q hq).mono (fun b hb => ⟨by omega, hb.2⟩)⟩
theorem OwnE.push (h : OwnE n f T W N es v qs) (hs : q.at n f W) (hn : q.on (fun b => N ≤ b ∧ v.ownBlock ≠ some b))
    (hg : W.grownBy W' v.ownBlock) (hat : v'.ownBlock = v.ownBlock ∨ v'.ownBlock = some W.heap.size) (ho : W'.ownsRow N T 8 v' (qs.length + 1) ((qs.map EL.vals).flatten ++ q.vals)) : OwnE n f T W' N (es ++ [q.e]) v' (qs ++ [q]) := by
  have hall : ∀ x ∈ qs ++ [q], x.at n f W ∧ x.on (fun b => N ≤ b ∧ v.ownBlock ≠ some b) := fun x hx => by
    rcases List.mem_append.1 hx with hx | hx
    · exact ⟨h.sl x hx, h.ne x hx⟩
    · obtain rfl : x = q := by simpa using hx
      exact ⟨hs, hn⟩
  refine ⟨by simpa using ho, by rw [List.map_append, h.e]; rfl, fun x hx => (hall x hx).1.kp (Kp.of_grown hg) ((hall x hx).2.mono (fun b hb => hb.2)), fun x hx => ((hall x hx).2.and (hall x hx).1.lt).mono (fun b hb => ⟨hb.1.1, ?_⟩)⟩
  rcases hat with h4 | h4
  · rw [h4]; exact hb.1.2
  · rw [h4]; intro h5; injection h5 with h5
    have := hb.2; omega
theorem OwnE.row (h : OwnE n f T W N es v qs) : ES n f W v qs := ⟨Sl.of_owns (base := N) (e := T) (by rw [List.length_map]; exact h.own) (EL.len qs), h.sl⟩
end

end Go.Proofs.YthdjinicmnhgpaaGreat


/-
Whether two relations are the same, two lists of them: the program's, the reference's.
-/
namespace Go.Proofs.YthdjinicmnhgpaaGreat
open Go.RowKit

theorem str_beq2 (s t : ByteArray) : (s.toList == t.toList) = decide (s = t) := by
  by_cases h : s = t
  · subst h; simp
  · rw [decide_eq_false h, beq_eq_false_iff_ne]
    exact fun e => h (toList_inj' e)
noncomputable def colB (c d : Col) : Bool := @decide (c = d) (Classical.propDecidable _)
noncomputable def colsB (l m : List Col) : Bool := @decide (l = m) (Classical.propDecidable _)
noncomputable def rlB (a b : Rl) : Bool := @decide (a = b) (Classical.propDecidable _)
noncomputable def rlsB (a b : List Rl) : Bool := @decide (a = b) (Classical.propDecidable _)
theorem colB_true {c d : Col} : colB c d = true ↔ c = d := by unfold colB; simp
theorem colsB_true {l m : List Col} : colsB l m = true ↔ l = m := by unfold colsB; simp
theorem colsB_false {l m : List Col} : colsB l m = false ↔ l ≠ m := by unfold colsB; simp
theorem rlB_true {a b : Rl} : rlB a b = true ↔ a = b := by unfold rlB; simp
theorem rlB_false {a b : Rl} : rlB a b = false ↔ a ≠ b := by unfold rlB; simp
theorem rlsB_true {a b : List Rl} : rlsB a b = true ↔ a = b := by unfold rlsB; simp
theorem rlsB_false {a b : List Rl} : rlsB a b = false ↔ a ≠ b := by unfold rlsB; simp
theorem colB_iff {c d : Col} : c = d ↔ c.nm = d.nm ∧ c.ty = d.ty ∧ c.key = d.key := by
  constructor
  · rintro rfl; exact ⟨rfl, rfl, rfl⟩
  · obtain ⟨a, b, k⟩ := c; obtain ⟨a', b', k'⟩ := d
    rintro ⟨h1, h2, h3⟩
    simp only at h1 h2 h3
    rw [h1, h2, h3]

set_option maxRecDepth 100000 in set_option maxHeartbeats 1600000 in
theorem neq_pcol (c d : Col) (w : World) : (binOp .neq 92 (.agg #[.string c.nm, .int .u8 c.ty, .bool c.key]) (.agg #[.string d.nm, .int .u8 d.ty, .bool d.key])).run Tryz.prog w = .ok (.bool (!colB c d)) w := by
  have hb : colB c d = @decide (c.nm = d.nm ∧ c.ty = d.ty ∧ c.key = d.key) (Classical.propDecidable _) := by
    unfold colB; exact decide_eq_decide.2 colB_iff
  rw [hb]
  clear hb
  by_cases h0 : c.nm = d.nm <;> by_cases h1 : c.ty = d.ty <;> by_cases h2 : c.key = d.key <;> simp [go_sem, h0, h1, h2]
  all_goals first
    | (intro h; exact absurd (toList_inj' h) h0)
    | omega
    | (intros; omega)
    | (intros; intro h; exact absurd (toList_inj' h) h0)
    | (intros; exact h2)
    | exact h2
    | (apply decide_eq_decide.2; simp [h0, h1, h2])
    | (congr)
set_option maxRecDepth 100000 in set_option maxHeartbeats 1600000 in
theorem neq_rcol (c d : Col) (w : World) : (binOp .neq 101 (.agg #[.string c.nm, .int .u8 c.ty, .bool c.key]) (.agg #[.string d.nm, .int .u8 d.ty, .bool d.key])).run Tryz.prog w = .ok (.bool (!colB c d)) w := by
  have hb : colB c d = @decide (c.nm = d.nm ∧ c.ty = d.ty ∧ c.key = d.key) (Classical.propDecidable _) := by
    unfold colB; exact decide_eq_decide.2 colB_iff
  rw [hb]
  clear hb
  by_cases h0 : c.nm = d.nm <;> by_cases h1 : c.ty = d.ty <;> by_cases h2 : c.key = d.key <;> simp [go_sem, h0, h1, h2]
  all_goals first
    | (intro h; exact absurd (toList_inj' h) h0)
    | omega
    | (intros; omega)
    | (intros; intro h; exact absurd (toList_inj' h) h0)
    | (intros; exact h2)
    | exact h2
    | (apply decide_eq_decide.2; simp [h0, h1, h2])
    | (congr)

/-- How two relations part, in the order of the text. -/
theorem rl_cases (a b : Rl) : (a.oid ≠ b.oid ∧ rlB a b = false) ∨ (a.oid = b.oid ∧ a.ver ≠ b.ver ∧ rlB a b = false) ∨ (a.oid = b.oid ∧ a.ver = b.ver ∧ a.nm ≠ b.nm ∧ rlB a b = false) ∨ (a.oid = b.oid ∧ a.ver = b.ver ∧ a.nm = b.nm ∧ a.id ≠ b.id ∧ rlB a b = false) ∨ (a.oid = b.oid ∧ a.ver = b.ver ∧ a.nm = b.nm ∧ a.id = b.id ∧ rlB a b = colsB a.cols b.cols) := by
  by_cases h1 : a.oid = b.oid
  · by_cases h2 : a.ver = b.ver
    · by_cases h3 : a.nm = b.nm
      · by_cases h4 : a.id = b.id
        · refine .inr (.inr (.inr (.inr ⟨h1, h2, h3, h4, ?_⟩)))
          obtain ⟨o, v, n, i, c⟩ := a
          obtain ⟨o', v', n', i', c'⟩ := b
          simp only at h1 h2 h3 h4
          subst h1; subst h2; subst h3; subst h4
          by_cases h5 : c = c'
          · subst h5; rw [rlB_true.2 rfl, colsB_true.2 rfl]
          · rw [rlB_false.2 (fun e => h5 (by injection e)), colsB_false.2 h5]
        · exact .inr (.inr (.inr (.inl ⟨h1, h2, h3, h4, rlB_false.2 (fun e => h4 (by rw [e]))⟩)))
      · exact .inr (.inr (.inl ⟨h1, h2, h3, rlB_false.2 (fun e => h3 (by rw [e]))⟩))
    · exact .inr (.inl ⟨h1, h2, rlB_false.2 (fun e => h2 (by rw [e]))⟩)
  · exact .inl ⟨h1, rlB_false.2 (fun e => h1 (by rw [e]))⟩

end Go.Proofs.YthdjinicmnhgpaaGreat

/-
slices.Clone of columns.
-/
namespace Go.Proofs.YthdjinicmnhgpaaGreat
open Go.RowKit

theorem run_equalIn_slice_nil4 {P : Program} (w : World) (d : Nat) (t e : TypeId) (a : Option Addr) (l c : Nat) (h : P.underlying t = some (.slice e)) : (Op.equalIn (d + 1) t (.slice a l c) (.slice none 0 0)).run P w = .ok a.isNone w := by
  cases a <;> simp [Op.equalIn, run_underlying h]
@[go_sem] theorem run_eql_slice_nil4 {P : Program} (w : World) (t e : TypeId) (a : Option Addr) (l c : Nat) (h : P.underlying t = some (.slice e)) : (binOp .eql t (.slice a l c) (.slice none 0 0)).run P w = .ok (.bool a.isNone) w := by
  have e : (Op.equal t (.slice a l c) (.slice none 0 0)).run P w = .ok a.isNone w := by
    exact run_equalIn_slice_nil4 w 9999 t e a l c h
  simp [binOp, e]

theorem flatC_len (l : List Col) : (l.map Col.cells).flatten.length = l.length * 3 := by
  have := flat_length 3 (l.map Col.cells) (fun xs hxs => by simp at hxs; obtain ⟨c, _, rfl⟩ := hxs; rfl)
  rwa [List.length_map] at this
theorem news_col {w : World} {b o : Nat} {l : List Col} (h : ∀ i, i < l.length → ∀ j, j < 3 → w.cell? ⟨b, o + i * 3 + j, none⟩ = ((l.map Col.cells).getD i [])[j]?) : ∀ j u, ((l.map Col.cells).flatten)[j]? = some u → w.cell? ((⟨b, o, none⟩ : Addr).add j) = some u := by
  intro j u hj
  have hjl : j < l.length * 3 := by
    rcases Nat.lt_or_ge j (l.length * 3) with h | h
    · exact h
    · rw [List.getElem?_eq_none (by rw [flatC_len]; exact h)] at hj; cases hj
  have hplain : (⟨b, o, none⟩ : Addr).add j = ⟨b, o + j, none⟩ := by unfold Addr.add; split <;> simp_all
  have hi : j / 3 < l.length := by omega
  have hq := flat_get 3 (l.map Col.cells) (fun xs hxs => by simp at hxs; obtain ⟨c, _, rfl⟩ := hxs; rfl) (j / 3) (by simpa using hi) (j % 3) (Nat.mod_lt _ (by decide))
  have hm : j / 3 * 3 + j % 3 = j := by omega
  rw [hm] at hq
  rw [hplain, ← hj, hq, ← h (j / 3) hi (j % 3) (Nat.mod_lt _ (by decide)), Nat.add_assoc, hm]

set_option maxRecDepth 100000 in set_option maxHeartbeats 1600000 in
theorem clonec_any (l : List Col) (a : Option Addr) (cap : Nat) (w : World) (hl : Sl w (.slice a l.length cap) 3 (l.map Col.cells)) (hlen : l.length ≤ 1000) :
    Calls Tryz.prog 64 #[.slice a l.length cap] w fun e w' => ∃ a' cap', e = .returned (.slice a' l.length cap') ∧ w'.ownsRow w.heap.size 92 3 (.slice a' l.length cap') l.length ((l.map Col.cells).flatten) ∧ Ext w w' := by
  obtain ⟨i0, hi, hz0, hz1, hz2⟩ := info_parts Tryz.infoCol
  have HL := Hid.mk' hl
  clear hl
  cases a with
  | none =>
    have h0 : l = [] := by
      obtain ⟨a, c, hv, h⟩ := HL.out
      simp only [Value.slice.injEq] at hv
      rcases h with h | ⟨b, o, ha, _⟩
      · simpa using h
      · rw [← hv.1] at ha; cases ha
    obtain ⟨a, c, hv, -⟩ := HL.out
    subst h0
    clear HL hv
    go_enter Tryz.func64, Tryz.ntmps64
    go_wp2
    go_ret
    exact ⟨_, _, rfl, World.ownsRow_nil _ _ _ _, by (repeat (with_reducible (first | exact Ext.refl _ | assumption | exact held_left (by assumption) | apply Ext.drewN | apply Ext.drew | apply Ext.alloc | (refine Ext.setCell ?_ (by first | (simp; done) | (simp; omega) | omega) _) | (refine Ext.trans ?_ (by assumption)) | (refine Ext.trans ?_ (held_left (by assumption))))))⟩
  | some ad =>
    have hnews : ∀ j u, ((l.map Col.cells).flatten)[j]? = some u → (w.alloc (.cells #[] 92)).cell? (ad.add j) = some u := by
      obtain ⟨a, c, hv, h⟩ := HL.out
      simp only [Value.slice.injEq] at hv
      obtain ⟨rfl, -, -⟩ := hv
      rcases h with h | ⟨b, o, ha, hb, hc⟩
      · have h0 : l = [] := by simpa using h
        subst h0; intro j u hj; simp at hj
      · cases ha
        refine news_col fun i hi j hj => ?_
        have hE : Ext w (w.alloc (.cells #[] 92)) := (Ext.refl w).alloc _
        rw [hE.cells.1 b _ hb]
        exact hc i (by simpa using hi) j hj
    have HN := Hid.mk' hnews
    clear HL hnews
    go_enter Tryz.func64, Tryz.ntmps64
    go_wp2_with (at_builtin; refine wpList_append_own _ rfl _ _ 68 rfl w.heap.size 92 i0 _ 3 24 Tryz.underlying68 hi hz0 hz1 hz2 rfl (by decide) (.slice (some ⟨w.heap.size, 0, none⟩) 0 0) 0 [] rfl ?c0 _ l.length _ ((l.map Col.cells).flatten) rfl (flatC_len l) HN.out ?c2 ?c3 ?c4 ?c5 ?_)
    case c0 => exact ⟨rfl, .inr ⟨_, 0, #[], rfl, Nat.le_refl _, Blk.new w #[] _, Nat.le_refl _, Nat.zero_le _, rfl, rfl⟩⟩
    case c2 => intro u hu; rw [List.mem_flatten] at hu; obtain ⟨xs, hxs, hu⟩ := hu; rw [List.mem_map] at hxs; obtain ⟨c, _, rfl⟩ := hxs; simp [Col.cells] at hu; rcases hu with rfl | rfl | rfl <;> rfl
    case c3 => unfold maxLen; omega
    case c4 => omega
    case c5 => simp
    intro v' w2 hown hgrow _
    have hown : w2.ownsRow w.heap.size 92 3 v' l.length ((l.map Col.cells).flatten) := by simpa using hown
    have hE2 : Ext w w2 := ((Ext.refl w).alloc (.cells #[] 92)).grown (v := .slice (some ⟨w.heap.size, 0, none⟩) 0 0) (e := 92) (size := 3) (n := 0) (xs := []) ⟨rfl, .inr ⟨_, 0, #[], rfl, Nat.le_refl _, Blk.new w #[] _, Nat.le_refl _, Nat.zero_le _, rfl, rfl⟩⟩ hgrow
    obtain ⟨a', c', rfl⟩ := owns_shape hown
    have HO := Hid.mk' hown
    have HE2 := Hid.mk' hE2
    clear hown hE2 hgrow
    go_wp2
    go_ret
    exact ⟨a', c', rfl, HO.out, HE2.out⟩

end Go.Proofs.YthdjinicmnhgpaaGreat

/-
Whether two events are alike, the program's and the reference's; slices.Equal and slices.Clone of refs.
-/
namespace Go.Proofs.YthdjinicmnhgpaaGreat
open Go.RowKit

theorem Tryz.infoRfQ : (Tryz.prog.info? 54).map (fun i => (i.zero, i.size, i.bytes)) = some (some (.agg #[.int .u32 0, .int .u32 0]), 2, 8) := by kernel_rfl
noncomputable def rfB (c d : Rf) : Bool := @decide (c = d) (Classical.propDecidable _)
noncomputable def rfsB (l m : List Rf) : Bool := @decide (l = m) (Classical.propDecidable _)
noncomputable def evB (l m : Ev) : Bool := @decide (l = m) (Classical.propDecidable _)
theorem rfB_true {c d : Rf} : rfB c d = true ↔ c = d := by unfold rfB; simp
theorem rfB_false {c d : Rf} : rfB c d = false ↔ c ≠ d := by unfold rfB; simp
theorem rfsB_true {l m : List Rf} : rfsB l m = true ↔ l = m := by unfold rfsB; simp
theorem rfsB_false {l m : List Rf} : rfsB l m = false ↔ l ≠ m := by unfold rfsB; simp
theorem evB_true {l m : Ev} : evB l m = true ↔ l = m := by unfold evB; simp
theorem evB_false {l m : Ev} : evB l m = false ↔ l ≠ m := by unfold evB; simp
theorem rfB_iff {c d : Rf} : c = d ↔ c.o = d.o ∧ c.v = d.v := by
  constructor
  · rintro rfl; exact ⟨rfl, rfl⟩
  · obtain ⟨a, b⟩ := c; obtain ⟨a', b'⟩ := d
    rintro ⟨h1, h2⟩
    simp only at h1 h2
    rw [h1, h2]
theorem rfB_eq (a b c d : Int) : rfB ⟨a, b⟩ ⟨c, d⟩ = decide (a = c ∧ b = d) := by
  unfold rfB
  by_cases h : a = c ∧ b = d
  · rw [decide_eq_true h]; obtain ⟨rfl, rfl⟩ := h; simp
  · rw [decide_eq_false h]; simp only [Rf.mk.injEq]; rw [decide_eq_false_iff_not]; exact h

set_option maxRecDepth 100000 in set_option maxHeartbeats 1600000 in
theorem neq_pref (a b c d : Int) (w : World) : (binOp .neq 54 (.agg #[.int .u32 a, .int .u32 b]) (.agg #[.int .u32 c, .int .u32 d])).run Tryz.prog w = .ok (.bool (!rfB ⟨a, b⟩ ⟨c, d⟩)) w := by
  rw [rfB_eq]
  by_cases h0 : a = c <;> by_cases h1 : b = d <;> simp [go_sem, h0, h1]
set_option maxRecDepth 100000 in set_option maxHeartbeats 1600000 in
theorem eql_pref (a b c d : Int) (w : World) : (binOp .eql 54 (.agg #[.int .u32 a, .int .u32 b]) (.agg #[.int .u32 c, .int .u32 d])).run Tryz.prog w = .ok (.bool (rfB ⟨a, b⟩ ⟨c, d⟩)) w := by
  rw [rfB_eq]
  by_cases h0 : a = c <;> by_cases h1 : b = d <;> simp [go_sem, h0, h1]
set_option maxRecDepth 100000 in set_option maxHeartbeats 1600000 in
theorem neq_rref (a b c d : Int) (w : World) : (binOp .neq 56 (.agg #[.int .u32 a, .int .u32 b]) (.agg #[.int .u32 c, .int .u32 d])).run Tryz.prog w = .ok (.bool (!rfB ⟨a, b⟩ ⟨c, d⟩)) w := by
  rw [rfB_eq]
  by_cases h0 : a = c <;> by_cases h1 : b = d <;> simp [go_sem, h0, h1]

set_option maxRecDepth 100000 in set_option maxHeartbeats 2000000 in
theorem eqrefs_any (l m : List Rf) (a b : Option Addr) (ca cb : Nat) (w : World) (hl : Sl w (.slice a l.length ca) 2 (l.map Rf.cells)) (hm : Sl w (.slice b m.length cb) 2 (m.map Rf.cells)) (hlen : l.length ≤ 100000) :
    Calls Tryz.prog 49 #[.slice a l.length ca, .slice b m.length cb] w fun e w' => e = .returned (.bool (rfsB l m)) ∧ Ext w w' := by
  have HL := Hid.mk' hl
  have HM := Hid.mk' hm
  clear hl hm
  by_cases hn : l.length = m.length
  case neg =>
    have hn' : (((l.length : Nat) : Int) != ((m.length : Nat) : Int)) = true := by simp; omega
    have HR := Hid.mk' (show rfsB l m = false from rfsB_false.2 (fun h => hn (by rw [h])))
    clear hn
    go_enter Tryz.func49, Tryz.ntmps49
    go_wp2
    go_ret
    exact ⟨ret_bool HR.out.symm, by (repeat (with_reducible (first | exact Ext.refl _ | assumption | exact held_left (by assumption) | apply Ext.drewN | apply Ext.drew | apply Ext.alloc | (refine Ext.setCell ?_ (by first | (simp; done) | (simp; omega) | omega) _) | (refine Ext.trans ?_ (by assumption)) | (refine Ext.trans ?_ (held_left (by assumption))))))⟩
  have hn' : (((l.length : Nat) : Int) != ((m.length : Nat) : Int)) = false := by simp; omega
  have HN := Hid.mk' hn
  clear hn
  go_enter Tryz.func49, Tryz.ntmps49
  go_wp2
  go_loopw [13] (fun i wr => ∃ k : Nat, k ≤ l.length ∧ i = .int .i64 k ∧ Hid (∀ j (h1 : j < l.length) (h2 : j < m.length), j < k → l[j] = m[j]) ∧ Hid (Ext w wr)) (fun i _ => l.length - (intOf i).toNat)
  case atStart => exact ⟨0, Nat.zero_le _, rfl, fun j _ _ h => by omega, Ext.refl _⟩
  case round =>
    obtain ⟨k, hk, rfl, hrel, hE⟩ := hrel
    by_cases hlt : k < l.length
    · have hlt2 : k < m.length := by have := HN.out; omega
      obtain ⟨b1, o1, rfl, hb1, hx1⟩ := HL.out.at_ (i := k) (by simpa using hlt)
      obtain ⟨f0, f1⟩ := Rf.at_ hlt hx1 hb1 hE.out
      obtain ⟨b2, o2, rfl, hb2, hx2⟩ := HM.out.at_ (i := k) (by simpa using hlt2)
      obtain ⟨p0, p1⟩ := Rf.at_ hlt2 hx2 hb2 hE.out
      have hbw : b1 < wr.heap.size := Nat.lt_of_lt_of_le hb1 hE.out.size
      have hbw2 : b2 < wr.heap.size := Nat.lt_of_lt_of_le hb2 hE.out.size
      have hNq := fun w => neq_pref l[k].o l[k].v m[k].o m[k].v w
      cases hA : rfB ⟨l[k].o, l[k].v⟩ ⟨m[k].o, m[k].v⟩ with
      | true =>
        rw [hA] at hNq
        have HA := Hid.mk' (rfB_true.1 hA)
        clear hA hx1 hx2
        go_wp2
        go_region_held3 (fun w' => Ext (wr) w' ∧ (∀ b o, b < (wr).heap.size → w'.cell? ⟨b, o, none⟩ = (wr).cell? ⟨b, o, none⟩) ∧ (∀ b o, b < (wr).heap.size → w'.frozen? ⟨b, o, none⟩ = (wr).frozen? ⟨b, o, none⟩)) ((exact held_of (by (repeat (with_reducible (first | exact Ext.refl _ | assumption | exact held_left (by assumption) | apply Ext.drewN | apply Ext.drew | apply Ext.alloc | (refine Ext.setCell ?_ (by first | (simp; done) | (simp; omega) | omega) _) | (refine Ext.trans ?_ (by assumption)) | (refine Ext.trans ?_ (held_left (by assumption))))))))) (fail)
        go_wp2
        go_roundw
        case rel => exact ⟨k + 1, by omega, by go_num, fun j h1 h2 hjk => by
          by_cases e : j = k
          · subst e; exact HA.out
          · exact hrel.out j h1 h2 (by omega), Hid.mk' (hE.out.trans (by (repeat (with_reducible (first | exact Ext.refl _ | assumption | exact held_left (by assumption) | apply Ext.drewN | apply Ext.drew | apply Ext.alloc | (refine Ext.setCell ?_ (by first | (simp; done) | (simp; omega) | omega) _) | (refine Ext.trans ?_ (by assumption)) | (refine Ext.trans ?_ (held_left (by assumption))))))))⟩
        case measure => simp [intOf]; omega
      | false =>
        rw [hA] at hNq
        have HR := Hid.mk' (show rfsB l m = false from rfsB_false.2 (fun h => rfB_false.1 hA (by subst h; rfl)))
        clear hA hx1 hx2
        go_wp2
        go_region_held3 (fun w' => Ext (wr) w' ∧ (∀ b o, b < (wr).heap.size → w'.cell? ⟨b, o, none⟩ = (wr).cell? ⟨b, o, none⟩) ∧ (∀ b o, b < (wr).heap.size → w'.frozen? ⟨b, o, none⟩ = (wr).frozen? ⟨b, o, none⟩)) ((exact held_of (by (repeat (with_reducible (first | exact Ext.refl _ | assumption | exact held_left (by assumption) | apply Ext.drewN | apply Ext.drew | apply Ext.alloc | (refine Ext.setCell ?_ (by first | (simp; done) | (simp; omega) | omega) _) | (refine Ext.trans ?_ (by assumption)) | (refine Ext.trans ?_ (held_left (by assumption))))))))) (fail)
        go_wp2
        go_ret
        exact ⟨ret_bool HR.out.symm, hE.out.trans (by (repeat (with_reducible (first | exact Ext.refl _ | assumption | exact held_left (by assumption) | apply Ext.drewN | apply Ext.drew | apply Ext.alloc | (refine Ext.setCell ?_ (by first | (simp; done) | (simp; omega) | omega) _) | (refine Ext.trans ?_ (by assumption)) | (refine Ext.trans ?_ (held_left (by assumption)))))))⟩
    · have hkk : k = l.length := by omega
      have HR := Hid.mk' (show rfsB l m = true from rfsB_true.2 (List.ext_getElem HN.out (fun i h1 h2 => hrel.out i h1 h2 (by omega))))
      subst hkk
      go_wp2
      go_ret
      exact ⟨ret_bool HR.out.symm, hE.out⟩

theorem flatR_len (l : List Rf) : (l.map Rf.cells).flatten.length = l.length * 2 := by
  have := flat_length 2 (l.map Rf.cells) (fun xs hxs => by simp at hxs; obtain ⟨c, _, rfl⟩ := hxs; rfl)
  rwa [List.length_map] at this
theorem news_ref {w : World} {b o : Nat} {l : List Rf} (h : ∀ i, i < l.length → ∀ j, j < 2 → w.cell? ⟨b, o + i * 2 + j, none⟩ = ((l.map Rf.cells).getD i [])[j]?) : ∀ j u, ((l.map Rf.cells).flatten)[j]? = some u → w.cell? ((⟨b, o, none⟩ : Addr).add j) = some u := by
  intro j u hj
  have hjl : j < l.length * 2 := by
    rcases Nat.lt_or_ge j (l.length * 2) with h | h
    · exact h
    · rw [List.getElem?_eq_none (by rw [flatR_len]; exact h)] at hj; cases hj
  have hplain : (⟨b, o, none⟩ : Addr).add j = ⟨b, o + j, none⟩ := by unfold Addr.add; split <;> simp_all
  have hi : j / 2 < l.length := by omega
  have hq := flat_get 2 (l.map Rf.cells) (fun xs hxs => by simp at hxs; obtain ⟨c, _, rfl⟩ := hxs; rfl) (j / 2) (by simpa using hi) (j % 2) (Nat.mod_lt _ (by decide))
  have hm : j / 2 * 2 + j % 2 = j := by omega
  rw [hm] at hq
  rw [hplain, ← hj, hq, ← h (j / 2) hi (j % 2) (Nat.mod_lt _ (by decide)), Nat.add_assoc, hm]

set_option maxRecDepth 100000 in set_option maxHeartbeats 1600000 in
theorem clonef_any (l : List Rf) (a : Option Addr) (cap : Nat) (w : World) (hl : Sl w (.slice a l.length cap) 2 (l.map Rf.cells)) (hlen : l.length ≤ 1000) :
    Calls Tryz.prog 51 #[.slice a l.length cap] w fun e w' => ∃ a' cap', e = .returned (.slice a' l.length cap') ∧ w'.ownsRow w.heap.size 54 2 (.slice a' l.length cap') l.length ((l.map Rf.cells).flatten) ∧ Ext w w' := by
  obtain ⟨i0, hi, hz0, hz1, hz2⟩ := info_parts Tryz.infoRfQ
  have HL := Hid.mk' hl
  clear hl
  cases a with
  | none =>
    have h0 : l = [] := by
      obtain ⟨a, c, hv, h⟩ := HL.out
      simp only [Value.slice.injEq] at hv
      rcases h with h | ⟨b, o, ha, _⟩
      · simpa using h
      · rw [← hv.1] at ha; cases ha
    obtain ⟨a, c, hv, -⟩ := HL.out
    subst h0
    clear HL hv
    go_enter Tryz.func51, Tryz.ntmps51
    go_wp2
    go_ret
    exact ⟨_, _, rfl, World.ownsRow_nil _ _ _ _, by (repeat (with_reducible (first | exact Ext.refl _ | assumption | exact held_left (by assumption) | apply Ext.drewN | apply Ext.drew | apply Ext.alloc | (refine Ext.setCell ?_ (by first | (simp; done) | (simp; omega) | omega) _) | (refine Ext.trans ?_ (by assumption)) | (refine Ext.trans ?_ (held_left (by assumption))))))⟩
  | some ad =>
    have hnews : ∀ j u, ((l.map Rf.cells).flatten)[j]? = some u → (w.alloc (.cells #[] 54)).cell? (ad.add j) = some u := by
      obtain ⟨a, c, hv, h⟩ := HL.out
      simp only [Value.slice.injEq] at hv
      obtain ⟨rfl, -, -⟩ := hv
      rcases h with h | ⟨b, o, ha, hb, hc⟩
      · have h0 : l = [] := by simpa using h
        subst h0; intro j u hj; simp at hj
      · cases ha
        refine news_ref fun i hi j hj => ?_
        have hE : Ext w (w.alloc (.cells #[] 54)) := (Ext.refl w).alloc _
        rw [hE.cells.1 b _ hb]
        exact hc i (by simpa using hi) j hj
    have HN := Hid.mk' hnews
    clear HL hnews
    go_enter Tryz.func51, Tryz.ntmps51
    go_wp2_with (at_builtin; refine wpList_append_own _ rfl _ _ 49 rfl w.heap.size 54 i0 _ 2 8 Tryz.underlying49 hi hz0 hz1 hz2 rfl (by decide) (.slice (some ⟨w.heap.size, 0, none⟩) 0 0) 0 [] rfl ?c0 _ l.length _ ((l.map Rf.cells).flatten) rfl (flatR_len l) HN.out ?c2 ?c3 ?c4 ?c5 ?_)
    case c0 => exact ⟨rfl, .inr ⟨_, 0, #[], rfl, Nat.le_refl _, Blk.new w #[] _, Nat.le_refl _, Nat.zero_le _, rfl, rfl⟩⟩
    case c2 => intro u hu; rw [List.mem_flatten] at hu; obtain ⟨xs, hxs, hu⟩ := hu; rw [List.mem_map] at hxs; obtain ⟨c, _, rfl⟩ := hxs; simp [Rf.cells] at hu; rcases hu with rfl | rfl <;> rfl
    case c3 => unfold maxLen; omega
    case c4 => omega
    case c5 => simp
    intro v' w2 hown hgrow _
    have hown : w2.ownsRow w.heap.size 54 2 v' l.length ((l.map Rf.cells).flatten) := by simpa using hown
    have hE2 : Ext w w2 := ((Ext.refl w).alloc (.cells #[] 54)).grown (v := .slice (some ⟨w.heap.size, 0, none⟩) 0 0) (e := 54) (size := 2) (n := 0) (xs := []) ⟨rfl, .inr ⟨_, 0, #[], rfl, Nat.le_refl _, Blk.new w #[] _, Nat.le_refl _, Nat.zero_le _, rfl, rfl⟩⟩ hgrow
    obtain ⟨a', c', rfl⟩ := owns_shape hown
    have HO := Hid.mk' hown
    have HE2 := Hid.mk' hE2
    clear hown hE2 hgrow
    go_wp2
    go_ret
    exact ⟨a', c', rfl, HO.out, HE2.out⟩

end Go.Proofs.YthdjinicmnhgpaaGreat

/-
Refs sorted and struck in place, in plain words: rows of refs as flat rows of cells, a block that is known whole, orders.
-/
namespace Go.Proofs.YthdjinicmnhgpaaGreat
open Go.RowKit Go.Sort

instance rfInh : Inhabited Rf := ⟨⟨0, 0⟩⟩
noncomputable instance rfDec : DecidableEq Rf := fun a b => Classical.propDecidable (a = b)
/-- The cells of refs. -/
def fl2 (l : List Rf) : List Value := (l.map Rf.cells).flatten
theorem fl2_len (l : List Rf) : (fl2 l).length = l.length * 2 := flatR_len l
theorem fl2_get (l : List Rf) {i : Nat} (hi : i < l.length) {j : Nat} (hj : j < 2) : (fl2 l)[i * 2 + j]? = (Rf.cells l[i])[j]? := by
  unfold fl2
  rw [flat_get 2 (l.map Rf.cells) (fun xs hxs => by simp at hxs; obtain ⟨c, _, rfl⟩ := hxs; rfl) i (by simpa using hi) j hj, getD_map Rf.cells l hi]
theorem flatK_fl2 (l : List Rf) : flatK Rf.cells 2 l.toArray = (fl2 l).toArray := by
  refine ext_get! (by rw [size_flatK]; simp [fl2_len]) (fun t ht => ?_)
  rw [size_flatK] at ht
  have ht' : t < l.length * 2 := by simpa using ht
  rw [get_flatK _ _ _ _ ht]
  have hi : t / 2 < l.length := by omega
  have hj : t % 2 < 2 := Nat.mod_lt _ (by decide)
  have h := fl2_get l hi hj
  rw [show t / 2 * 2 + t % 2 = t by omega] at h
  have e1 : (fl2 l).toArray[t]! = ((fl2 l)[t]?).getD default := by
    simp [Array.getElem!_eq_getD, Array.getD_eq_getD_getElem?]
  have e2 : l.toArray[t / 2]! = l[t / 2] := by
    rw [getElem!_pos l.toArray _ (by simpa using hi)]; simp
  rw [e1, h, e2]
  have h3 : t % 2 < (Rf.cells l[t / 2]).length := hj
  rw [getElem!_pos (Rf.cells l[t / 2]) (t % 2) h3, List.getElem?_eq_getElem h3]
  rfl
/-- A block that begins with refs holds them. -/
theorem Blk.holds {w : World} {b : Nat} {l : List Rf} {rest : List Value} {T : TypeId} (h : Blk w b (fl2 l ++ rest).toArray T) : HoldsK Rf.cells 2 w b 0 l.toArray := by
  unfold HoldsK
  rw [flatK_fl2]
  intro j hj
  refine ⟨?_, h.frozen _⟩
  have hj' : j < (fl2 l).length := by simpa using hj
  rw [h.cell, Nat.zero_add]
  rw [show ((fl2 l ++ rest).toArray)[j]? = (fl2 l ++ rest)[j]? by simp, List.getElem?_append_left hj', List.getElem?_eq_getElem hj', getElem!_pos (fl2 l).toArray j hj]
  simp
theorem putCells_app (F F' R : List Value) (h : F'.length = F.length) : putCells id 0 F'.toArray (F ++ R).toArray = (F' ++ R).toArray := by
  apply Array.ext_getElem?
  intro k
  simp only [putCells, Array.getElem?_mapIdx, List.getElem?_toArray]
  by_cases hk : k < F.length
  · rw [List.getElem?_append_left hk, List.getElem?_append_left (by omega), List.getElem?_eq_getElem hk, List.getElem?_eq_getElem (by omega), Option.map_some, if_pos ⟨Nat.zero_le _, by simp; omega⟩, Nat.sub_zero, getElem!_pos _ _ (by simp; omega)]
    simp
  · rw [List.getElem?_append_right (by omega), List.getElem?_append_right (by omega), h]
    cases R[k - F.length]? with
    | none => rfl
    | some x => rw [Option.map_some, if_neg (by simp; omega)]
/-- What the kit's rows are in a block that is known whole. -/
theorem Blk.put {w : World} {b : Nat} {l d : List Rf} {rest : List Value} {T : TypeId} (h : Blk w b (fl2 l ++ rest).toArray T) (hd : d.length = l.length) (n : Nat) (os : Array Obj) :
    Blk (sortWorldK Rf.cells 2 w b 0 n d.toArray os) b (fl2 d ++ rest).toArray T ∧ Kp (fun x => x = b) w (sortWorldK Rf.cells 2 w b 0 n d.toArray os) := by
  unfold sortWorldK putRowK
  rw [flatK_fl2]
  have hlt := h.lt
  constructor
  · unfold Blk
    rw [heap_grow_old _ _ (by rw [size_putRow]; exact hlt)]
    unfold putRow mapBlock
    simp only [Array.getElem?_modify, heap_ahead, if_true]
    unfold Blk at h
    rw [h, Option.map_some]
    show some (Obj.cells (putCells id 0 (fl2 d).toArray (fl2 l ++ rest).toArray) T (0, 0)) = _
    rw [putCells_app (fl2 l) (fl2 d) rest (by rw [fl2_len, fl2_len, hd])]
  · refine ⟨rfl, rfl, rfl, by rw [size_grow, size_putRow]; exact Nat.le_add_right _ _, fun k hk hs => ?_⟩
    rw [heap_grow_old _ _ (by rw [size_putRow]; exact hk)]
    unfold putRow mapBlock
    simp only [Array.getElem?_modify, heap_ahead]
    rw [if_neg (fun e => hs e.symm)]

/-- How two refs compare. -/
def cfR (x y : Rf) : Int := cmpR x.o x.v y.o y.v
theorem ltR {x y : Rf} : ltOf cfR x y = true ↔ x.lt y := by
  unfold ltOf cfR Rf.lt
  rw [decide_eq_true_iff, cmpR_neg]
theorem ltR_no {x y : Rf} : ltOf cfR x y = false ↔ ¬ x.lt y := by
  rw [← ltR]; simp
theorem swoR : SWO (ltOf cfR) where
  irrefl x := ltR_no.2 (Rf.irr x)
  trans x y z h1 h2 := ltR.2 (Rf.trans (ltR.1 h1) (ltR.1 h2))
  ntrans x y z h1 h2 := ltR_no.2 (by
    have a := ltR_no.1 h1
    have b := ltR_no.1 h2
    unfold Rf.lt aheadP at *
    omega)
theorem perm_of {d d' : Array Rf} (h : PermIn 0 d.size d d') : d'.size = d.size ∧ d'.toList.Perm d.toList := by
  obtain ⟨h1, -, h3⟩ := h
  refine ⟨h1, ?_⟩
  have e1 : d.extract 0 d.size = d := by simp
  have e2 : d'.extract 0 d.size = d' := by rw [← h1]; simp
  rwa [e1, e2] at h3
theorem wax_of {d : Array Rf} {n : Nat} (hn : d.size = n) (h : SortedIn (ltOf cfR) 0 n d) : Wax d.toList := by
  unfold Wax
  rw [List.pairwise_iff_getElem]
  intro i j hi hj hij
  have := ltR_no.1 (h i j (Nat.zero_le _) hij (by rw [← hn]; simpa using hj))
  rwa [getElem!_pos d j (by simpa using hj), getElem!_pos d i (by simpa using hi)] at this

/-- Equal neighbours struck: the kit's word is ours. -/
theorem compF_cons (a : Rf) (l : List Rf) : compF (a :: l) = match l with | [] => [a] | b :: m => if a = b then compF (b :: m) else a :: compF (b :: m) := by
  cases l with
  | nil => rfl
  | cons b m => rfl
theorem compF_snoc : ∀ (l : List Rf) (x : Rf), compF (l ++ [x]) = if l.getLast? = some x then compF l else compF l ++ [x]
  | [], x => by simp [compF]
  | [a], x => by
    by_cases h : a = x
    · subst h; simp [compF]
    · simp [compF, h]
  | a :: b :: l, x => by
    have ih := compF_snoc (b :: l) x
    have e0 : (a :: b :: l).getLast? = (b :: l).getLast? := by simp
    rw [e0]
    show compF (a :: b :: (l ++ [x])) = _
    have ih' : compF (b :: (l ++ [x])) = if (b :: l).getLast? = some x then compF (b :: l) else compF (b :: l) ++ [x] := ih
    rw [compF_cons a (b :: (l ++ [x])), compF_cons a (b :: l)]
    simp only
    rw [ih']
    by_cases h : a = b
    · rw [if_pos h, if_pos h]
    · rw [if_neg h, if_neg h]
      split <;> rfl
theorem compactUpTo_take (l : List Rf) : ∀ m, m ≤ l.length → Go.Lib.compactUpTo l.toArray m = compF (l.take m)
  | 0, _ => by simp [Go.Lib.compactUpTo, compF]
  | m + 1, h => by
    rw [Go.Lib.compactUpTo_succ, compactUpTo_take l m (by omega), List.take_succ_eq_append_getElem (by omega), compF_snoc]
    have e1 : l.toArray[m]! = l[m] := by rw [getElem!_pos _ _ (by simp; omega)]; simp
    rw [e1]
    cases m with
    | zero => simp [Go.Lib.keeps, compF]
    | succ k =>
      have e2 : l.toArray[k + 1 - 1]! = l[k] := by rw [Nat.add_sub_cancel, getElem!_pos _ _ (by simp; omega)]; simp
      have e3 : (l.take (k + 1)).getLast? = some l[k] := by
        rw [List.take_succ_eq_append_getElem (by omega), List.getLast?_concat]
      rw [e3]
      by_cases hh : l[k] = l[k + 1]
      · have hk := Go.Lib.keeps_neg (d := l.toArray) (m := k + 1) (by omega) (by rw [e1, e2, hh])
        rw [hk]; simp [hh]
      · have hk := Go.Lib.keeps_pos (d := l.toArray) (m := k + 1) (by rw [e1, e2]; exact fun e => hh e.symm)
        rw [hk]; simp [hh]
theorem compactUpTo_all' (l : List Rf) : Go.Lib.compactUpTo l.toArray l.toArray.size = compF l := by
  rw [compactUpTo_take l l.toArray.size (by simp)]
  simp

end Go.Proofs.YthdjinicmnhgpaaGreat

/-
The library's sort at refs, laid in plain words.
-/
namespace Go.Proofs.YthdjinicmnhgpaaGreat
open Go.Shelf
def Tryz.sortR_ren : Go.Shelf.Ren := ⟨fun | 6 => 29 | 15 => 53 | 14 => 52 | 28 => 86 | 29 => 87 | 20 => 78 | 21 => 79 | 22 => 80 | 23 => 81 | 24 => 82 | 25 => 83 | 26 => 84 | 27 => 85 | 46 => 99 | 47 => 100 | 48 => 101 | 49 => 102 | 50 => 103 | 57 => 112 | n => n, fun | 22 => 49 | 24 => 54 | 25 => 86 | 3 => 3 | 39 => 119 | 0 => 0 | 53 => 36 | 55 => 37 | 4 => 4 | 46 => 145 | 45 => 144 | 50 => 105 | 5 => 5 | 9 => 9 | 66 => 164 | 70 => 168 | 76 => 179 | 77 => 42 | n => n, fun | n => n⟩
theorem Tryz.sortR : Go.Proofs.SlLaysF0.n6 Tryz.prog Tryz.sortR_ren := {
  mixed := by kernel_rfl
  f6 := ⟨Tryz.f29.name, by decide, Tryz.func29.trans (congrArg some (by kernel_rfl))⟩
  f14 := ⟨Tryz.f52.name, by decide, Tryz.func52.trans (congrArg some (by kernel_rfl))⟩
  f15 := Tryz.func53.trans (congrArg some (by kernel_rfl))
  f20 := ⟨Tryz.f78.name, by decide, Tryz.func78.trans (congrArg some (by kernel_rfl))⟩
  f21 := ⟨Tryz.f79.name, by decide, Tryz.func79.trans (congrArg some (by kernel_rfl))⟩
  f22 := ⟨Tryz.f80.name, by decide, Tryz.func80.trans (congrArg some (by kernel_rfl))⟩
  f23 := ⟨Tryz.f81.name, by decide, Tryz.func81.trans (congrArg some (by kernel_rfl))⟩
  f24 := ⟨Tryz.f82.name, by decide, Tryz.func82.trans (congrArg some (by kernel_rfl))⟩
  f25 := ⟨Tryz.f83.name, by decide, Tryz.func83.trans (congrArg some (by kernel_rfl))⟩
  f26 := ⟨Tryz.f84.name, by decide, Tryz.func84.trans (congrArg some (by kernel_rfl))⟩
  f27 := ⟨Tryz.f85.name, by decide, Tryz.func85.trans (congrArg some (by kernel_rfl))⟩
  f28 := Tryz.func86.trans (congrArg some (by kernel_rfl))
  f29 := Tryz.func87.trans (congrArg some (by kernel_rfl))
  f46 := ⟨Tryz.f99.name, by decide, Tryz.func99.trans (congrArg some (by kernel_rfl))⟩
  f47 := Tryz.func100.trans (congrArg some (by kernel_rfl))
  f48 := Tryz.func101.trans (congrArg some (by kernel_rfl))
  f49 := ⟨Tryz.f102.name, by decide, Tryz.func102.trans (congrArg some (by kernel_rfl))⟩
  f50 := ⟨Tryz.f103.name, by decide, Tryz.func103.trans (congrArg some (by kernel_rfl))⟩
  f57 := ⟨Tryz.f112.name, by decide, Tryz.func112.trans (congrArg some (by kernel_rfl))⟩
  t0 := Tryz.underlying0
  a0 := Tryz.isAgg0
  z0 := Tryz.sizeOf0
  v0 := Tryz.zeroValue0
  t3 := Tryz.underlying3
  a3 := Tryz.isAgg3
  z3 := Tryz.sizeOf3
  v3 := Tryz.zeroValue3
  t4 := Tryz.underlying4
  a4 := Tryz.isAgg4
  z4 := Tryz.sizeOf4
  v4 := Tryz.zeroValue4
  t5 := Tryz.underlying5
  a5 := Tryz.isAgg5
  z5 := Tryz.sizeOf5
  v5 := Tryz.zeroValue5
  t9 := Tryz.underlying9
  a9 := Tryz.isAgg9
  z9 := Tryz.sizeOf9
  v9 := Tryz.zeroValue9
  t22 := Tryz.underlying49
  a22 := Tryz.isAgg49
  z22 := Tryz.sizeOf49
  v22 := Tryz.zeroValue49
  t25 := Tryz.underlying86
  a25 := Tryz.isAgg86
  z25 := Tryz.sizeOf86
  v25 := Tryz.zeroValue86
  t39 := Tryz.underlying119
  a39 := Tryz.isAgg119
  z39 := Tryz.sizeOf119
  v39 := Tryz.zeroValue119
  t45 := Tryz.underlying144
  a45 := Tryz.isAgg144
  z45 := Tryz.sizeOf144
  v45 := Tryz.zeroValue144
  t46 := Tryz.underlying145
  a46 := Tryz.isAgg145
  z46 := Tryz.sizeOf145
  v46 := Tryz.zeroValue145
  t50 := Tryz.underlying105
  a50 := Tryz.isAgg105
  z50 := Tryz.sizeOf105
  v50 := Tryz.zeroValue105
  t53 := Tryz.underlying36
  a53 := Tryz.isAgg36
  z53 := Tryz.sizeOf36
  v53 := Tryz.zeroValue36
  t55 := Tryz.underlying37
  a55 := Tryz.isAgg37
  z55 := Tryz.sizeOf37
  v55 := Tryz.zeroValue37
  t66 := Tryz.underlying164
  a66 := Tryz.isAgg164
  z66 := Tryz.sizeOf164
  v66 := Tryz.zeroValue164
  t70 := Tryz.underlying168
  a70 := Tryz.isAgg168
  z70 := Tryz.sizeOf168
  v70 := Tryz.zeroValue168
  t76 := Tryz.underlying179
  a76 := Tryz.isAgg179
  z76 := Tryz.sizeOf179
  v76 := Tryz.zeroValue179
  t77 := Tryz.underlying42
  a77 := Tryz.isAgg42
  z77 := Tryz.sizeOf42
  v77 := Tryz.zeroValue42 }
end Go.Proofs.YthdjinicmnhgpaaGreat

/-
Which of two refs is ahead, the program's.
-/
namespace Go.Proofs.YthdjinicmnhgpaaGreat
open Go.RowKit

set_option maxRecDepth 20000 in set_option maxHeartbeats 400000 in
theorem isnan_any (x : Int) (w : World) : Calls Tryz.prog 88 #[.int .u32 x] w fun e w' => e = .returned (.bool false) ∧ w = w' := by
  go_enter Tryz.func88, Tryz.ntmps88
  go_wp2
  go_ret
  exact ⟨by simp, rfl⟩

set_option maxRecDepth 20000 in set_option maxHeartbeats 400000 in
theorem cmpu_any (a b : Int) (w : World) : Calls Tryz.prog 55 #[.int .u32 a, .int .u32 b] w fun e w' => e = .returned (.int .i64 (cmpI a b)) ∧ w = w' := by
  by_cases h1 : a < b
  · have HR := Hid.mk' (show cmpI a b = -1 by unfold cmpI; rw [if_pos h1])
    go_enter Tryz.func55, Tryz.ntmps55
    go_wp2_with (go_at_call 88; refine (isnan_any _ _).mono ?_; rintro e w1 ⟨rfl, rfl⟩)
    go_ret
    exact ⟨ret_int HR.out.symm, rfl⟩
  · by_cases h2 : b < a
    · have HR := Hid.mk' (show cmpI a b = 1 by unfold cmpI; rw [if_neg h1, if_pos h2])
      go_enter Tryz.func55, Tryz.ntmps55
      go_wp2_with (go_at_call 88; refine (isnan_any _ _).mono ?_; rintro e w1 ⟨rfl, rfl⟩)
      go_ret
      exact ⟨ret_int HR.out.symm, rfl⟩
    · have HR := Hid.mk' (show cmpI a b = 0 by unfold cmpI; rw [if_neg h1, if_neg h2])
      go_enter Tryz.func55, Tryz.ntmps55
      go_wp2_with (go_at_call 88; refine (isnan_any _ _).mono ?_; rintro e w1 ⟨rfl, rfl⟩)
      go_ret
      exact ⟨ret_int HR.out.symm, rfl⟩

def orI (a b : Int) : Int := if a ≠ 0 then a else b
set_option maxRecDepth 100000 in set_option maxHeartbeats 1600000 in
theorem cmpor_any (a b : Int) (B : Nat) (w : World) (h0 : w.cell? ⟨B, 0, none⟩ = some (.int .i64 a)) (h1 : w.cell? ⟨B, 1, none⟩ = some (.int .i64 b)) (_hB : B < w.heap.size) :
    Calls Tryz.prog 54 #[.slice (some ⟨B, 0, none⟩) 2 2] w fun e w' => e = .returned (.int .i64 (orI a b)) ∧ Ext w w' := by
  by_cases ha : a = 0
  · subst ha
    by_cases hb : b = 0
    · subst hb
      go_enter Tryz.func54, Tryz.ntmps54
      go_wp2
      go_loop [8] (fun i => i = .int .i64 0 ∨ i = .int .i64 1 ∨ i = .int .i64 2) (fun i => 2 - (intOf i).toNat)
      case atStart => exact .inl rfl
      case round =>
        rcases hrel with rfl | rfl | rfl
        · go_wp2
          go_round
          case rel => exact .inr (.inl rfl)
          case measure => simp [intOf]
        · go_wp2
          go_round
          case rel => exact .inr (.inr rfl)
          case measure => simp [intOf]
        · go_wp2
          go_ret
          exact ⟨ret_int (by unfold orI; simp), by (repeat (with_reducible (first | exact Ext.refl _ | assumption | exact held_left (by assumption) | apply Ext.drewN | apply Ext.drew | apply Ext.alloc | (refine Ext.setCell ?_ (by first | (simp; done) | (simp; omega) | omega) _) | (refine Ext.trans ?_ (by assumption)) | (refine Ext.trans ?_ (held_left (by assumption))))))⟩
    · have hb' : (b != 0) = true := by simpa using hb
      have HR := Hid.mk' (show orI 0 b = b by unfold orI; simp)
      clear hb
      go_enter Tryz.func54, Tryz.ntmps54
      go_wp2
      go_loop [8] (fun i => i = .int .i64 0 ∨ i = .int .i64 1) (fun i => 2 - (intOf i).toNat)
      case atStart => exact .inl rfl
      case round =>
        rcases hrel with rfl | rfl
        · go_wp2
          go_round
          case rel => exact .inr rfl
          case measure => simp [intOf]
        · go_wp2
          go_ret
          exact ⟨ret_int HR.out.symm, by (repeat (with_reducible (first | exact Ext.refl _ | assumption | exact held_left (by assumption) | apply Ext.drewN | apply Ext.drew | apply Ext.alloc | (refine Ext.setCell ?_ (by first | (simp; done) | (simp; omega) | omega) _) | (refine Ext.trans ?_ (by assumption)) | (refine Ext.trans ?_ (held_left (by assumption))))))⟩
  · have ha' : (a != 0) = true := by simpa using ha
    have HR := Hid.mk' (show orI a b = a by unfold orI; rw [if_pos ha])
    clear ha
    go_enter Tryz.func54, Tryz.ntmps54
    go_wp2
    go_loop [8] (fun i => i = .int .i64 0) (fun _ => 0)
    case atStart => rfl
    case round =>
      subst hrel
      go_wp2
      go_ret
      exact ⟨ret_int HR.out.symm, by (repeat (with_reducible (first | exact Ext.refl _ | assumption | exact held_left (by assumption) | apply Ext.drewN | apply Ext.drew | apply Ext.alloc | (refine Ext.setCell ?_ (by first | (simp; done) | (simp; omega) | omega) _) | (refine Ext.trans ?_ (by assumption)) | (refine Ext.trans ?_ (held_left (by assumption))))))⟩

set_option maxRecDepth 100000 in set_option maxHeartbeats 4000000 in
theorem compare_any (o1 v1 o2 v2 : Int) (w : World) :
    Calls Tryz.prog 30 #[.agg #[.int .u32 o1, .int .u32 v1], .agg #[.int .u32 o2, .int .u32 v2]] w fun e w' => e = .returned (.int .i64 (cmpR o1 v1 o2 v2)) ∧ Ext w w' := by
  have HC := Hid.mk' (fun w => cmpu_any o1 o2 w)
  have HD := Hid.mk' (fun w => cmpu_any v1 v2 w)
  have HR := Hid.mk' (show orI (cmpI o1 o2) (cmpI v1 v2) = cmpR o1 v1 o2 v2 from rfl)
  obtain ⟨A, hA⟩ : ∃ A, A = cmpI o1 o2 := ⟨_, rfl⟩
  obtain ⟨B, hB⟩ : ∃ B, B = cmpI v1 v2 := ⟨_, rfl⟩
  rw [← hA] at HC HR
  rw [← hB] at HD HR
  clear hA hB
  go_enter Tryz.func30, Tryz.ntmps30
  go_wp2
  go_region_held3 (fun w' => Ext ((w.alloc (.cells #[.int .u32 o1, .int .u32 v1] 54)).alloc (.cells #[.int .u32 o2, .int .u32 v2] 54)) w' ∧ (∀ b o, b < ((w.alloc (.cells #[.int .u32 o1, .int .u32 v1] 54)).alloc (.cells #[.int .u32 o2, .int .u32 v2] 54)).heap.size → w'.cell? ⟨b, o, none⟩ = ((w.alloc (.cells #[.int .u32 o1, .int .u32 v1] 54)).alloc (.cells #[.int .u32 o2, .int .u32 v2] 54)).cell? ⟨b, o, none⟩) ∧ (∀ b o, b < ((w.alloc (.cells #[.int .u32 o1, .int .u32 v1] 54)).alloc (.cells #[.int .u32 o2, .int .u32 v2] 54)).heap.size → w'.frozen? ⟨b, o, none⟩ = ((w.alloc (.cells #[.int .u32 o1, .int .u32 v1] 54)).alloc (.cells #[.int .u32 o2, .int .u32 v2] 54)).frozen? ⟨b, o, none⟩)) ((exact held_of (by (repeat (with_reducible (first | exact Ext.refl _ | assumption | exact held_left (by assumption) | apply Ext.drewN | apply Ext.drew | apply Ext.alloc | (refine Ext.setCell ?_ (by first | (simp; done) | (simp; omega) | omega) _) | (refine Ext.trans ?_ (by assumption)) | (refine Ext.trans ?_ (held_left (by assumption))))))))) (first
    | (go_at_call_of 55 (Value.int .u32 o1); refine (HC.out _).mono ?_; rintro e w1 ⟨rfl, rfl⟩)
    | (go_at_call_of 55 (Value.int .u32 v1); refine (HD.out _).mono ?_; rintro e w1 ⟨rfl, rfl⟩)
    | (go_at_call 54; refine (cmpor_any A B _ _ (by go_simp) (by go_simp) (by simp)).mono ?_; rintro e w1 ⟨rfl, hb1⟩))
  go_wp2
  go_ret
  exact ⟨ret_int HR.out, by (repeat (with_reducible (first | exact Ext.refl _ | assumption | exact held_left (by assumption) | apply Ext.drewN | apply Ext.drew | apply Ext.alloc | (refine Ext.setCell ?_ (by first | (simp; done) | (simp; omega) | omega) _) | (refine Ext.trans ?_ (by assumption)) | (refine Ext.trans ?_ (held_left (by assumption))))))⟩

set_option maxRecDepth 100000 in set_option maxHeartbeats 1600000 in
theorem find1_any (p : RR) (o v : Int) (w : World) :
    Calls Tryz.prog 61 #[p.agg, .agg #[.int .u32 o, .int .u32 v]] w fun e w' => e = .returned (.int .i64 (cmpR p.r.oid p.r.ver o v)) ∧ Ext w w' := by
  obtain ⟨⟨oid, ver, nm, id, cols⟩, a, c⟩ := p
  unfold RR.agg
  simp only
  have HC := Hid.mk' (fun w => compare_any oid ver o v w)
  obtain ⟨A, hA⟩ : ∃ A, A = cmpR oid ver o v := ⟨_, rfl⟩
  rw [← hA] at HC ⊢
  clear hA
  go_enter Tryz.func61, Tryz.ntmps61
  go_wp2_with (go_at_call 30; refine (HC.out _).mono ?_; rintro e w1 ⟨rfl, hb1⟩)
  go_ret
  exact ⟨rfl, by (repeat (with_reducible (first | exact Ext.refl _ | assumption | exact held_left (by assumption) | apply Ext.drewN | apply Ext.drew | apply Ext.alloc | (refine Ext.setCell ?_ (by first | (simp; done) | (simp; omega) | omega) _) | (refine Ext.trans ?_ (by assumption)) | (refine Ext.trans ?_ (held_left (by assumption))))))⟩

end Go.Proofs.YthdjinicmnhgpaaGreat

/-
Refs sorted: the library's sort by its contract.
-/
namespace Go.Proofs.YthdjinicmnhgpaaGreat
open Go.RowKit Go.Sort Go.Shelf

theorem grow_of {W w' : World} (h : Ext W w') (hd : W.drawn ≤ w'.drawn) : ∃ q os', w' = grow (W.drewN q) os' := by
  refine ⟨w'.drawn - W.drawn, w'.heap.extract W.heap.size w'.heap.size, ?_⟩
  obtain ⟨h1, h2, h3, h4, h5⟩ := h
  have hh : w'.heap = W.heap ++ w'.heap.extract W.heap.size w'.heap.size := by
    apply Array.ext_getElem?
    intro k
    rcases Nat.lt_or_ge k W.heap.size with hk | hk
    · rw [Array.getElem?_append_left hk, h5 k hk]
    · rw [Array.getElem?_append_right hk]
      rcases Nat.lt_or_ge k w'.heap.size with hk2 | hk2
      · rw [Array.getElem?_eq_getElem hk2, Array.getElem?_eq_getElem (by simp; omega), Array.getElem_extract]
        congr 1
        congr 1
        omega
      · rw [Array.getElem?_eq_none hk2, Array.getElem?_eq_none (by simp; omega)]
  have hd2 : W.drawn + (w'.drawn - W.drawn) = w'.drawn := by omega
  cases w'
  cases W
  simp only [grow, World.drewN] at *
  simp only [World.mk.injEq]
  exact ⟨hh, h2, hd2.symm, h1, h3⟩

set_option maxRecDepth 100000 in set_option maxHeartbeats 1600000 in
theorem cmpor_same (a b : Int) (B : Nat) (w : World) (h0 : w.cell? ⟨B, 0, none⟩ = some (.int .i64 a)) (h1 : w.cell? ⟨B, 1, none⟩ = some (.int .i64 b)) (_hB : B < w.heap.size) :
    Calls Tryz.prog 54 #[.slice (some ⟨B, 0, none⟩) 2 2] w fun e w' => e = .returned (.int .i64 (orI a b)) ∧ w = w' := by
  by_cases ha : a = 0
  · subst ha
    by_cases hb : b = 0
    · subst hb
      go_enter Tryz.func54, Tryz.ntmps54
      go_wp2
      go_loop [8] (fun i => i = .int .i64 0 ∨ i = .int .i64 1 ∨ i = .int .i64 2) (fun i => 2 - (intOf i).toNat)
      case atStart => exact .inl rfl
      case round =>
        rcases hrel with rfl | rfl | rfl
        · go_wp2
          go_round
          case rel => exact .inr (.inl rfl)
          case measure => simp [intOf]
        · go_wp2
          go_round
          case rel => exact .inr (.inr rfl)
          case measure => simp [intOf]
        · go_wp2
          go_ret
          exact ⟨ret_int (by unfold orI; simp), rfl⟩
    · have hb' : (b != 0) = true := by simpa using hb
      have HR := Hid.mk' (show orI 0 b = b by unfold orI; simp)
      clear hb
      go_enter Tryz.func54, Tryz.ntmps54
      go_wp2
      go_loop [8] (fun i => i = .int .i64 0 ∨ i = .int .i64 1) (fun i => 2 - (intOf i).toNat)
      case atStart => exact .inl rfl
      case round =>
        rcases hrel with rfl | rfl
        · go_wp2
          go_round
          case rel => exact .inr rfl
          case measure => simp [intOf]
        · go_wp2
          go_ret
          exact ⟨ret_int HR.out.symm, rfl⟩
  · have ha' : (a != 0) = true := by simpa using ha
    have HR := Hid.mk' (show orI a b = a by unfold orI; rw [if_pos ha])
    clear ha
    go_enter Tryz.func54, Tryz.ntmps54
    go_wp2
    go_loop [8] (fun i => i = .int .i64 0) (fun _ => 0)
    case atStart => rfl
    case round =>
      subst hrel
      go_wp2
      go_ret
      exact ⟨ret_int HR.out.symm, rfl⟩

set_option maxRecDepth 100000 in set_option maxHeartbeats 4000000 in
theorem compare_dr (o1 v1 o2 v2 : Int) (w : World) :
    Calls Tryz.prog 30 #[.agg #[.int .u32 o1, .int .u32 v1], .agg #[.int .u32 o2, .int .u32 v2]] w fun e w' => e = .returned (.int .i64 (cmpR o1 v1 o2 v2)) ∧ ∃ q os', w' = grow (w.drewN q) os' := by
  have HC := Hid.mk' (fun w => cmpu_any o1 o2 w)
  have HD := Hid.mk' (fun w => cmpu_any v1 v2 w)
  have HR := Hid.mk' (show orI (cmpI o1 o2) (cmpI v1 v2) = cmpR o1 v1 o2 v2 from rfl)
  obtain ⟨A, hA⟩ : ∃ A, A = cmpI o1 o2 := ⟨_, rfl⟩
  obtain ⟨B, hB⟩ : ∃ B, B = cmpI v1 v2 := ⟨_, rfl⟩
  rw [← hA] at HC HR
  rw [← hB] at HD HR
  clear hA hB
  go_enter Tryz.func30, Tryz.ntmps30
  go_wp2
  go_region_held3 (fun w' => Ext ((w.alloc (.cells #[.int .u32 o1, .int .u32 v1] 54)).alloc (.cells #[.int .u32 o2, .int .u32 v2] 54)) w' ∧ (∀ b o, b < ((w.alloc (.cells #[.int .u32 o1, .int .u32 v1] 54)).alloc (.cells #[.int .u32 o2, .int .u32 v2] 54)).heap.size → w'.cell? ⟨b, o, none⟩ = ((w.alloc (.cells #[.int .u32 o1, .int .u32 v1] 54)).alloc (.cells #[.int .u32 o2, .int .u32 v2] 54)).cell? ⟨b, o, none⟩) ∧ (∀ b o, b < ((w.alloc (.cells #[.int .u32 o1, .int .u32 v1] 54)).alloc (.cells #[.int .u32 o2, .int .u32 v2] 54)).heap.size → w'.frozen? ⟨b, o, none⟩ = ((w.alloc (.cells #[.int .u32 o1, .int .u32 v1] 54)).alloc (.cells #[.int .u32 o2, .int .u32 v2] 54)).frozen? ⟨b, o, none⟩) ∧ w.drawn ≤ w'.drawn) (exact ⟨held_of (by (repeat (with_reducible (first | exact Ext.refl _ | assumption | exact held_left (by assumption) | apply Ext.drewN | apply Ext.drew | apply Ext.alloc | (refine Ext.setCell ?_ (by first | (simp; done) | (simp; omega) | omega) _) | (refine Ext.trans ?_ (by assumption)) | (refine Ext.trans ?_ (held_left (by assumption))))))) |>.1, (held_of (by (repeat (with_reducible (first | exact Ext.refl _ | assumption | exact held_left (by assumption) | apply Ext.drewN | apply Ext.drew | apply Ext.alloc | (refine Ext.setCell ?_ (by first | (simp; done) | (simp; omega) | omega) _) | (refine Ext.trans ?_ (by assumption)) | (refine Ext.trans ?_ (held_left (by assumption)))))))).2.1, (held_of (by (repeat (with_reducible (first | exact Ext.refl _ | assumption | exact held_left (by assumption) | apply Ext.drewN | apply Ext.drew | apply Ext.alloc | (refine Ext.setCell ?_ (by first | (simp; done) | (simp; omega) | omega) _) | (refine Ext.trans ?_ (by assumption)) | (refine Ext.trans ?_ (held_left (by assumption)))))))).2.2, by (first | exact Nat.le_refl _ | assumption | (simp only [World.alloc, World.setCell, World.drew, World.drewN] at *; omega))⟩) (first
    | (go_at_call_of 55 (Value.int .u32 o1); refine (HC.out _).mono ?_; rintro e w1 ⟨rfl, rfl⟩)
    | (go_at_call_of 55 (Value.int .u32 v1); refine (HD.out _).mono ?_; rintro e w1 ⟨rfl, rfl⟩)
    | (go_at_call 54; refine (cmpor_same A B _ _ (by go_simp) (by go_simp) (by simp)).mono ?_; rintro e w1 ⟨rfl, rfl⟩))
  go_wp2
  go_ret
  exact ⟨ret_int HR.out, grow_of (by (repeat (with_reducible (first | exact Ext.refl _ | assumption | exact held_left (by assumption) | apply Ext.drewN | apply Ext.drew | apply Ext.alloc | (refine Ext.setCell ?_ (by first | (simp; done) | (simp; omega) | omega) _) | (refine Ext.trans ?_ (by assumption)) | (refine Ext.trans ?_ (held_left (by assumption))))))) (by (first | exact Nat.le_refl _ | assumption | (simp only [World.alloc, World.setCell, World.drew, World.drewN] at *; omega)))⟩

theorem cmpLaysR (blk size : Nat) (w : World) : CmpLays Tryz.prog 30 #[] Rf.cells 2 cfR blk 0 size w :=
  fun _ _ _ _ x y => compare_dr x.o x.v y.o y.v _
theorem rf_one (x : Rf) : ∀ v ∈ Rf.cells x, v.oneCell' = true := by
  intro u hu; simp [Rf.cells] at hu; rcases hu with rfl | rfl <;> rfl

/-- The library's sort of refs in a block that is known whole. -/
theorem sort_any (l : List Rf) (blk cap : Nat) (rest : List Value) (w : World) (hB : Blk w blk (fl2 l ++ rest).toArray 54) (hn : l.length ≤ 1000000000000) :
    Calls Tryz.prog 29 #[.slice (some ⟨blk, 0, none⟩) l.length cap, .func (.func 30) #[] #[]] w fun e w' => e = .returned (.tuple #[]) ∧ ∃ d : List Rf, d.length = l.length ∧ d.Perm l ∧ Wax d ∧ Blk w' blk (fl2 d ++ rest).toArray 54 ∧ Kp (fun x => x = blk) w w' := by
  have eg : ∀ args w, (callFunc 30 args).run Tryz.prog w = .ok (.enter 30 args) w := enters_of Tryz.func30 (by kernel_rfl) rfl
  have h := AnyQ.slices_SortFunc Tryz.sortR 2 Tryz.isAgg54 Tryz.sizeOf54 Rf.cells (fun _ => rfl) rf_one cfR swoR 30 #[] blk 0 cap l.toArray w eg (cmpLaysR blk l.toArray.size w) hB.holds hB.lt (by simp; omega)
  change Calls Tryz.prog 29 _ _ _ at h
  have hs : l.toArray.size = l.length := by simp
  rw [hs] at h
  refine h.mono fun e w' ⟨he, d', n, os, hp, hso, hw⟩ => ⟨he, d'.toList, ?_⟩
  have hp2 := perm_of (d := l.toArray) (by rw [hs]; exact hp)
  have hl : d'.toList.length = l.length := by have := hp2.1; simpa using this
  have hput := hB.put hl n os
  have e1 : d'.toList.toArray = d' := by simp
  rw [e1] at hput
  subst hw
  exact ⟨hl, by have := hp2.2; simpa using this, wax_of (by have := hp2.1; simpa using this) hso, hput.1, hput.2⟩
theorem sort_none (p : Option Addr) (cap : Nat) (fv : Value) (w : World) :
    Calls Tryz.prog 29 #[.slice p 0 cap, fv] w fun e w' => e = .returned (.tuple #[]) ∧ w' = w := by
  have h := AnyF.slices_SortFunc_none Tryz.sortR p cap fv w
  exact h

end Go.Proofs.YthdjinicmnhgpaaGreat

/-
Equal neighbours struck: slices.Compact of refs in a block that is known whole.
-/
namespace Go.Proofs.YthdjinicmnhgpaaGreat
open Go.RowKit Go.Sort

section
variable {w : World} {b : Nat} {l : List Rf} {rest : List Value} {T : TypeId}
theorem Blk.rf {o : Nat} (h : Blk w b (fl2 l ++ rest).toArray T) (ho : o = 0) {i : Nat} (hi : i < l.length) : w.cell? ⟨b, o + i * 2, none⟩ = some (.int .u32 l[i].o) ∧ w.cell? ⟨b, o + i * 2 + 1, none⟩ = some (.int .u32 l[i].v) := by
  subst ho
  have hl := fl2_len l
  have h0 := fl2_get l hi (j := 0) (by decide)
  have h1 := fl2_get l hi (j := 1) (by decide)
  rw [h.cell, h.cell, Nat.zero_add, List.getElem?_toArray, List.getElem?_toArray, List.getElem?_append_left (by omega), List.getElem?_append_left (by omega)]
  exact ⟨h0, h1⟩
theorem fl2_set (l : List Rf) {i : Nat} (hi : i < l.length) (r : Rf) (rest : List Value) : ((fl2 l ++ rest).set (i * 2) (.int .u32 r.o)).set (i * 2 + 1) (.int .u32 r.v) = fl2 (l.set i r) ++ rest := by
  induction l generalizing i with
  | nil => simp at hi
  | cons x l ih =>
    have e : fl2 (x :: l) = .int .u32 x.o :: .int .u32 x.v :: fl2 l := rfl
    cases i with
    | zero => rfl
    | succ i =>
      have hi' : i < l.length := by simpa using hi
      have e2 : fl2 ((x :: l).set (i + 1) r) = .int .u32 x.o :: .int .u32 x.v :: fl2 (l.set i r) := rfl
      rw [e, e2, Nat.add_mul, Nat.one_mul]
      simp only [List.cons_append, List.set_cons_succ]
      rw [ih hi']
theorem Blk.setRf {o : Nat} (h : Blk w b (fl2 l ++ rest).toArray T) (ho : o = 0) {i : Nat} (hi : i < l.length) (r : Rf) : Blk ((w.setCell ⟨b, o + i * 2, none⟩ (.int .u32 r.o)).setCell ⟨b, o + i * 2 + 1, none⟩ (.int .u32 r.v)) b (fl2 (l.set i r) ++ rest).toArray T := by
  subst ho
  have h1 := (h.set (0 + i * 2) (.int .u32 r.o)).set (0 + i * 2 + 1) (.int .u32 r.v)
  rw [← fl2_set l hi r rest]
  simpa only [Nat.zero_add, List.setIfInBounds_toArray] using h1
theorem Blk.setCells : ∀ (vs : List Value) (s : Nat) {w : World} {cs : Array Value}, Blk w b cs T → Blk (w.setCells b s vs) b (setMany cs s vs) T ∧ Kp (fun x => x = b) w (w.setCells b s vs)
  | [], _, _, _, h => ⟨h, Kp.refl⟩
  | v :: r, s, _, _, h => by
    have h1 := Blk.setCells r (s + 1) (h.set s v)
    exact ⟨h1.1, (Kp.set (S := fun x => x = b) ⟨b, s, none⟩ v rfl).trans h1.2 (fun x hx _ => hx)⟩
theorem setMany_take {cs : Array Value} {s : Nat} {vs : List Value} (hs : s ≤ cs.size) : setMany cs s vs = (cs.toList.take s ++ (setMany cs s vs).toList.drop s).toArray := by
  have h : (setMany cs s vs).toList.take s = cs.toList.take s := by
    apply List.ext_getElem?
    intro t
    by_cases ht : t < s
    · have h1 := get_setMany vs s cs t (by omega)
      rw [if_neg (by omega)] at h1
      have hz : t < (setMany cs s vs).size := by rw [size_setMany]; omega
      have hc : t < cs.size := by omega
      rw [getElem!_pos (setMany cs s vs) t hz, getElem!_pos cs t hc] at h1
      rw [List.getElem?_take_of_lt ht, List.getElem?_take_of_lt ht, Array.getElem?_toList, Array.getElem?_toList, Array.getElem?_eq_getElem hz, Array.getElem?_eq_getElem hc, h1]
    · rw [List.getElem?_eq_none (by simp; omega), List.getElem?_eq_none (by simp; omega)]
  rw [← h, List.take_append_drop]
theorem zeroCells_rf (n : Nat) : Builtin.zeroCells #[Value.int .u32 0, Value.int .u32 0] n = (List.replicate (n * 2) (Value.int .u32 0)).toArray := by
  unfold Builtin.zeroCells
  apply Array.ext
  · simp
  · intro i h1 h2
    simp only [Array.getElem_map, Array.getElem_range, List.getElem_toArray, List.getElem_replicate]
    have h3 : i % 2 = 0 ∨ i % 2 = 1 := by omega
    show #[Value.int .u32 0, Value.int .u32 0][i % 2]! = _
    rcases h3 with h | h <;> rw [h] <;> rfl
/-- What 'clear' does to a row's end. -/
theorem run_clear_rf {o kk n cap : Nat} {d : List Rf} (h : Blk w b (fl2 d ++ rest).toArray T) (ho : o = 0) (hk : kk + n = d.length) (hn : 0 < n) :
    ∃ w' rest', (∀ ty : TypeId, (Builtin.clear_ #[49] ty #[.slice (some ⟨b, o + kk * 2, none⟩) n cap]).run Tryz.prog w = .ok (.tuple #[]) w') ∧ Blk w' b (fl2 (d.take kk) ++ rest').toArray T ∧ Kp (fun x => x = b) w w' := by
  subst ho
  have hl := fl2_len d
  have hst := run_storeCells_cells (P := Tryz.prog) b (0 + kk * 2) (List.replicate (n * 2) (Value.int .u32 0)) 0 w (by
    intro j hj
    rw [h.cell, List.getElem?_toArray, List.getElem?_append_left (by simp at hj; omega), List.getElem?_eq_getElem (by simp at hj; omega)]
    rfl) (fun j _ => h.frozen _) (by intro v hv; rw [List.eq_of_mem_replicate hv]; rfl)
  simp only [Nat.add_zero] at hst
  have hB := Blk.setCells (List.replicate (n * 2) (Value.int .u32 0)) (0 + kk * 2) h
  have h2 := hB.1
  rw [setMany_take (by simp; omega)] at h2
  have e : (fl2 d ++ rest).toArray.toList.take (0 + kk * 2) = fl2 (d.take kk) := by
    have e2 : fl2 d = fl2 (d.take kk) ++ fl2 (d.drop kk) := by
      unfold fl2
      rw [← List.flatten_append, ← List.map_append, List.take_append_drop]
    have e3 : (fl2 (d.take kk)).length = kk * 2 := by rw [fl2_len, List.length_take]; omega
    show (fl2 d ++ rest).take _ = _
    rw [e2, Nat.zero_add, ← e3, List.append_assoc, List.take_left]
  rw [e] at h2
  refine ⟨_, _, fun ty => ?_, h2, hB.2⟩
  obtain ⟨m, rfl⟩ : ∃ m, n = m + 1 := ⟨n - 1, by omega⟩
  have hv : ∀ w, (zeroValue 54).run Tryz.prog w = .ok (.agg #[.int .u32 0, .int .u32 0]) w := fun w => Tryz.zeroValue54 w
  have hzc : (Builtin.zeroCells (Value.agg #[.int .u32 0, .int .u32 0]).cells (m + 1)).toList = List.replicate ((m + 1) * 2) (Value.int .u32 0) := by
    show (Builtin.zeroCells #[Value.int .u32 0, Value.int .u32 0] (m + 1)).toList = _
    rw [zeroCells_rf]
  simp only [Nat.zero_add] at hst
  simp [Builtin.clear_, run_underlying Tryz.underlying49, hv, hzc, hst]
end

set_option maxRecDepth 100000 in set_option maxHeartbeats 4000000 in
theorem compact_o (l : List Rf) (blk o cap : Nat) (rest : List Value) (w : World) (ho : o = 0) (hB : Blk w blk (fl2 l ++ rest).toArray 54) (hn : l.length ≤ 1000000000000) (hcap : l.length ≤ cap) :
    Calls Tryz.prog 31 #[.slice (some ⟨blk, o, none⟩) l.length cap] w fun e w' => e = .returned (.slice (some ⟨blk, o, none⟩) (compF l).length cap) ∧ (∃ rest', Blk w' blk (fl2 (compF l) ++ rest').toArray 54) ∧ Kp (fun x => x = blk) w w' := by
  have HO := Hid.mk' ho
  have HB := Hid.mk' hB
  clear ho hB
  by_cases h2 : l.length < 2
  · have HR := Hid.mk' (show compF l = l by
      match l, h2 with
      | [], _ => rfl
      | [a], _ => rfl)
    go_enter Tryz.func31, Tryz.ntmps31
    go_wp2
    go_ret
    exact ⟨by rw [HR.out]; rfl, ⟨rest, by rw [HR.out]; exact HB.out⟩, Kp.refl⟩
  go_enter Tryz.func31, Tryz.ntmps31
  go_wp2
  go_loopw [3] (fun s3 wr => ∃ m : Nat, m + 1 ≤ l.length ∧ s3 = .int .i64 ((m : Int) + 1) ∧ Hid (∀ j, j < m + 1 → Go.Lib.keeps l.toArray j = true) ∧ Hid (Ext w wr)) (fun i _ => l.length - (intOf i).toNat)
  case atStart => exact ⟨0, by omega, rfl, Hid.mk' (Go.Lib.keeps_lt_one _), Hid.mk' (Ext.refl _)⟩
  case round =>
    obtain ⟨m, hm, rfl, hall, hE⟩ := hrel
    have HBr := Hid.mk' (HB.out.ext hE.out)
    by_cases hlt : m + 1 < l.length
    · have hlt0 : m < l.length := by omega
      obtain ⟨f0, f1⟩ := HBr.out.rf HO.out hlt0
      obtain ⟨s0, s1⟩ := HBr.out.rf HO.out hlt
      have hbw := HBr.out.lt
      have hNq := fun w => eql_pref l[m + 1].o l[m + 1].v l[m].o l[m].v w
      have q1 : IntKind.i64.wrap (m : Int) = (m : Int) := IntWalk.i64_in _ (by omega)
      have q2 : ((m : Int) + 1).toNat = m + 1 := by omega
      have i1 : (m : Int) < (l.length : Int) := by omega
      have i2 : (m : Int) + 1 < (l.length : Int) := by omega
      have i3 : (0 : Int) ≤ (m : Int) + 1 := by omega
      have i4 : (0 : Int) ≤ (m : Int) := by omega
      have i5 : ((m + 1 : Nat) : Int) = (m : Int) + 1 := by omega
      have e1 : l.toArray[m + 1]! = l[m + 1] := by rw [getElem!_pos l.toArray (m + 1) (by simpa using hlt)]; simp
      have e2 : l.toArray[m + 1 - 1]! = l[m] := by rw [Nat.add_sub_cancel, getElem!_pos l.toArray m (by simpa using hlt0)]; simp
      by_cases heq : l[m + 1] = l[m]
      · have HD := Hid.mk' (Go.Lib.keeps_neg (d := l.toArray) (m := m + 1) (by omega) (by rw [e1, e2, heq]))
        rw [show rfB ⟨l[m + 1].o, l[m + 1].v⟩ ⟨l[m].o, l[m].v⟩ = true from rfB_true.2 (by rw [heq])] at hNq
        clear heq e1 e2
        go_wp2
        go_region_held3 (fun w' => Ext (wr) w' ∧ (∀ b o, b < (wr).heap.size → w'.cell? ⟨b, o, none⟩ = (wr).cell? ⟨b, o, none⟩) ∧ (∀ b o, b < (wr).heap.size → w'.frozen? ⟨b, o, none⟩ = (wr).frozen? ⟨b, o, none⟩)) ((exact held_of (by (repeat (with_reducible (first | exact Ext.refl _ | assumption | exact held_left (by assumption) | apply Ext.drewN | apply Ext.drew | apply Ext.alloc | (refine Ext.setCell ?_ (by first | (simp; done) | (simp; omega) | omega) _) | (refine Ext.trans ?_ (by assumption)) | (refine Ext.trans ?_ (held_left (by assumption))))))))) (fail)
        clear q1 q2 f0 f1 s0 s1 hNq
        have HLT := Hid.mk' hlt
        obtain ⟨wo, hwo⟩ : ∃ x, x = wr := ⟨_, rfl⟩
        subst hwo
        have HST := Hid.mk' (Go.Lib.CompInv.start hall.out HD.out)
        clear hall HD i1 i2 i3 i4 i5 hbw
        go_wp2
        go_loopw [3, 5] (fun s3 s5 wr => ∃ (kk n : Nat) (dk : List Rf), s3 = .int .i64 kk ∧ s5 = .int .i64 ((n : Int) + 1) ∧ m + 1 + (n + 1) ≤ l.length ∧ dk.length = l.length ∧ kk < m + 1 + (n + 1) ∧ Hid (Go.Lib.CompInv l.toArray (m + 1 + (n + 1)) kk dk.toArray) ∧ Hid (Blk wr blk (fl2 dk ++ rest).toArray 54) ∧ Hid (Kp (fun x => x = blk) w wr)) (fun _ i _ => l.length - (intOf i).toNat)
        case atStart => exact ⟨m + 1, 0, l, by go_num, rfl, by have := HLT.out; omega, rfl, by omega, HST, Hid.mk' (HBr.out.ext (by (repeat (with_reducible (first | exact Ext.refl _ | assumption | exact held_left (by assumption) | apply Ext.drewN | apply Ext.drew | apply Ext.alloc | (refine Ext.setCell ?_ (by first | (simp; done) | (simp; omega) | omega) _) | (refine Ext.trans ?_ (by assumption)) | (refine Ext.trans ?_ (held_left (by assumption)))))))), Hid.mk' (Kp.of_ext (hE.out.trans (by (repeat (with_reducible (first | exact Ext.refl _ | assumption | exact held_left (by assumption) | apply Ext.drewN | apply Ext.drew | apply Ext.alloc | (refine Ext.setCell ?_ (by first | (simp; done) | (simp; omega) | omega) _) | (refine Ext.trans ?_ (by assumption)) | (refine Ext.trans ?_ (held_left (by assumption)))))))))⟩
        case round =>
          obtain ⟨kk, n, dk, rfl, rfl, hle, hdk, hkk, hI, hBx, hK⟩ := hrel
          by_cases hlt2 : m + 1 + (n + 1) < l.length
          · have hi1 : m + 1 + (n + 1) < dk.length := by omega
            have hi0 : m + 1 + n < dk.length := by omega
            have hik : kk < dk.length := by omega
            obtain ⟨f0, f1⟩ := hBx.out.rf HO.out hi0
            obtain ⟨s0, s1⟩ := hBx.out.rf HO.out hi1
            obtain ⟨k0, k1⟩ := hBx.out.rf HO.out hik
            have kf := hBx.out.frozen
            have hbw := hBx.out.lt
            rw [show o + (m + 1 + n) * 2 = o + (m + 1) * 2 + n * 2 by omega] at f0 f1
            rw [show o + (m + 1 + (n + 1)) * 2 = o + (m + 1) * 2 + (n + 1) * 2 by omega] at s0 s1
            have e1 : l.toArray[m + 1 + (n + 1)]! = dk[m + 1 + (n + 1)] := by
              have h := hI.out.high (m + 1 + (n + 1)) (by omega)
              rw [← h, getElem!_pos dk.toArray _ (by simpa using hi1)]; simp
            have e2 : l.toArray[m + 1 + (n + 1) - 1]! = dk[m + 1 + n] := by
              have h := hI.out.high (m + 1 + n) (by omega)
              rw [show m + 1 + (n + 1) - 1 = m + 1 + n by omega, ← h, getElem!_pos dk.toArray _ (by simpa using hi0)]; simp
            have HE1 := Hid.mk' e1
            have HE2 := Hid.mk' e2
            obtain ⟨u, hu⟩ : ∃ u, u = dk[m + 1 + (n + 1)] := ⟨_, rfl⟩
            obtain ⟨v, hv⟩ : ∃ v, v = dk[m + 1 + n] := ⟨_, rfl⟩
            rw [← hu] at s0 s1 HE1
            rw [← hv] at f0 f1 HE2
            clear hu hv e1 e2 hi1 hi0
            have hNq := fun w => neq_pref u.o u.v v.o v.v w
            have q1 : IntKind.i64.wrap (n : Int) = (n : Int) := IntWalk.i64_in _ (by omega)
            have q2 : ((n : Int) + 1).toNat = n + 1 := by omega
            have i1 : (n : Int) < ((l.length - (m + 1) : Nat) : Int) := by omega
            have i2 : (n : Int) + 1 < ((l.length - (m + 1) : Nat) : Int) := by omega
            have i3 : (0 : Int) ≤ (n : Int) + 1 := by omega
            have i4 : (0 : Int) ≤ (n : Int) := by omega
            have i5 : ((n + 1 : Nat) : Int) = (n : Int) + 1 := by omega
            have HLT2 := Hid.mk' hlt2
            by_cases heq : u = v
            · have HS := Hid.mk' (hI.out.skip (Go.Lib.keeps_neg (by omega) (by rw [HE1.out, HE2.out, heq])))
              rw [show rfB ⟨u.o, u.v⟩ ⟨v.o, v.v⟩ = true from rfB_true.2 (by rw [heq])] at hNq
              clear heq hI
              go_wp2
              go_region_held3 (fun w' => Ext (wr) w' ∧ (∀ b o, b < (wr).heap.size → w'.cell? ⟨b, o, none⟩ = (wr).cell? ⟨b, o, none⟩) ∧ (∀ b o, b < (wr).heap.size → w'.frozen? ⟨b, o, none⟩ = (wr).frozen? ⟨b, o, none⟩)) ((exact held_of (by (repeat (with_reducible (first | exact Ext.refl _ | assumption | exact held_left (by assumption) | apply Ext.drewN | apply Ext.drew | apply Ext.alloc | (refine Ext.setCell ?_ (by first | (simp; done) | (simp; omega) | omega) _) | (refine Ext.trans ?_ (by assumption)) | (refine Ext.trans ?_ (held_left (by assumption))))))))) (fail)
              clear q1 q2
              go_wp2
              go_roundw
              case rel => exact ⟨kk, n + 1, dk, rfl, by go_num, by have := HLT2.out; omega, hdk, by omega, HS, Hid.mk' (hBx.out.ext (by (repeat (with_reducible (first | exact Ext.refl _ | assumption | exact held_left (by assumption) | apply Ext.drewN | apply Ext.drew | apply Ext.alloc | (refine Ext.setCell ?_ (by first | (simp; done) | (simp; omega) | omega) _) | (refine Ext.trans ?_ (by assumption)) | (refine Ext.trans ?_ (held_left (by assumption)))))))), Hid.mk' (hK.out.trans (Kp.of_ext (S := fun x => x = blk) (by (repeat (with_reducible (first | exact Ext.refl _ | assumption | exact held_left (by assumption) | apply Ext.drewN | apply Ext.drew | apply Ext.alloc | (refine Ext.setCell ?_ (by first | (simp; done) | (simp; omega) | omega) _) | (refine Ext.trans ?_ (by assumption)) | (refine Ext.trans ?_ (held_left (by assumption)))))))) (fun x hx _ => hx))⟩
              case measure => have := HLT2.out; simp [intOf]; omega
            · have HS := Hid.mk' (hI.out.keep (by simpa using hlt2) (Go.Lib.keeps_pos (by rw [HE1.out, HE2.out]; exact heq)))
              rw [show rfB ⟨u.o, u.v⟩ ⟨v.o, v.v⟩ = false from rfB_false.2 heq] at hNq
              rw [HE1.out, List.setIfInBounds_toArray] at HS
              clear heq hI
              go_wp2
              go_region_held3 (fun w' => Ext (wr) w' ∧ (∀ b o, b < (wr).heap.size → w'.cell? ⟨b, o, none⟩ = (wr).cell? ⟨b, o, none⟩) ∧ (∀ b o, b < (wr).heap.size → w'.frozen? ⟨b, o, none⟩ = (wr).frozen? ⟨b, o, none⟩)) ((exact held_of (by (repeat (with_reducible (first | exact Ext.refl _ | assumption | exact held_left (by assumption) | apply Ext.drewN | apply Ext.drew | apply Ext.alloc | (refine Ext.setCell ?_ (by first | (simp; done) | (simp; omega) | omega) _) | (refine Ext.trans ?_ (by assumption)) | (refine Ext.trans ?_ (held_left (by assumption))))))))) (fail)
              clear q1
              go_wp2
              go_roundw
              case rel => exact ⟨kk + 1, n + 1, dk.set kk u, by go_num, by go_num, by have := HLT2.out; omega, by rw [List.length_set]; exact hdk, by omega, HS, Hid.mk' ((hBx.out.setRf HO.out hik u).drew), Hid.mk' (((hK.out.trans (Kp.set (S := fun x => x = blk) ⟨blk, o + kk * 2, none⟩ (.int .u32 u.o) rfl) (fun x hx _ => hx)).trans (Kp.set (S := fun x => x = blk) ⟨blk, o + kk * 2 + 1, none⟩ (.int .u32 u.v) rfl) (fun x hx _ => hx)).trans (Kp.of_ext (S := fun x => x = blk) (by (repeat (with_reducible (first | exact Ext.refl _ | assumption | exact held_left (by assumption) | apply Ext.drewN | apply Ext.drew | apply Ext.alloc | (refine Ext.setCell ?_ (by first | (simp; done) | (simp; omega) | omega) _) | (refine Ext.trans ?_ (by assumption)) | (refine Ext.trans ?_ (held_left (by assumption)))))))) (fun x hx _ => hx))⟩
              case measure => have := HLT2.out; simp [intOf]; omega
          · have hend : m + 1 + (n + 1) = l.length := by omega
            have hkn : kk + (l.length - kk) = dk.length := by omega
            obtain ⟨w9, rest', hrun, hB9, hK9⟩ := run_clear_rf (cap := cap - kk) hBx.out HO.out hkn (by omega)
            have hR : (compF l).length = kk ∧ dk.take kk = compF l := by
              have h := hI.out
              have hsz : m + 1 + (n + 1) = l.toArray.size := by simpa using hend
              rw [hsz] at h
              have h1 := h.len
              rw [compactUpTo_all'] at h1
              refine ⟨h1, List.ext_getElem (by rw [List.length_take, h1]; omega) (fun i hi1 hi2 => ?_)⟩
              have h2 := h.low i (by omega)
              rw [compactUpTo_all', List.getElem?_eq_getElem hi2, getElem!_pos dk.toArray i (by simp; omega)] at h2
              rw [List.getElem_take]
              simpa using (Option.some.inj h2).symm
            rw [hR.2] at hB9
            have HR := Hid.mk' hR.1
            have HB9 := Hid.mk' hB9
            have HK9 := Hid.mk' (hK.out.trans hK9 (fun x hx _ => hx))
            clear hR hB9 hK9 hI hBx hK hkn
            go_wp2
            go_ret
            exact ⟨by rw [HR.out]; rfl, ⟨rest', HB9.out⟩, HK9.out⟩
      · have HD := Hid.mk' (Go.Lib.keeps_pos (d := l.toArray) (m := m + 1) (by rw [e1, e2]; exact heq))
        rw [show rfB ⟨l[m + 1].o, l[m + 1].v⟩ ⟨l[m].o, l[m].v⟩ = false from rfB_false.2 heq] at hNq
        clear heq e1 e2
        go_wp2
        go_region_held3 (fun w' => Ext (wr) w' ∧ (∀ b o, b < (wr).heap.size → w'.cell? ⟨b, o, none⟩ = (wr).cell? ⟨b, o, none⟩) ∧ (∀ b o, b < (wr).heap.size → w'.frozen? ⟨b, o, none⟩ = (wr).frozen? ⟨b, o, none⟩)) ((exact held_of (by (repeat (with_reducible (first | exact Ext.refl _ | assumption | exact held_left (by assumption) | apply Ext.drewN | apply Ext.drew | apply Ext.alloc | (refine Ext.setCell ?_ (by first | (simp; done) | (simp; omega) | omega) _) | (refine Ext.trans ?_ (by assumption)) | (refine Ext.trans ?_ (held_left (by assumption))))))))) (fail)
        clear q1 q2
        go_wp2
        go_roundw
        case rel => exact ⟨m + 1, by omega, by go_num, Hid.mk' (fun j hj => by
          by_cases e : j = m + 1
          · subst e; exact HD.out
          · exact hall.out j (by omega)), Hid.mk' (hE.out.trans (by (repeat (with_reducible (first | exact Ext.refl _ | assumption | exact held_left (by assumption) | apply Ext.drewN | apply Ext.drew | apply Ext.alloc | (refine Ext.setCell ?_ (by first | (simp; done) | (simp; omega) | omega) _) | (refine Ext.trans ?_ (by assumption)) | (refine Ext.trans ?_ (held_left (by assumption))))))))⟩
        case measure => simp [intOf]; omega
    · have hkk : m + 1 = l.length := by omega
      have HR := Hid.mk' (show compF l = l by
        have h := compactUpTo_all' l
        rw [Go.Lib.compactUpTo_all _ _ (fun j hj => hall.out j (by simp at hj; omega)), Go.Lib.range_map_get] at h
        rw [← h])
      go_wp2
      go_ret
      exact ⟨by rw [HR.out]; rfl, ⟨rest, by rw [HR.out]; exact HBr.out⟩, Kp.of_ext hE.out⟩

end Go.Proofs.YthdjinicmnhgpaaGreat
