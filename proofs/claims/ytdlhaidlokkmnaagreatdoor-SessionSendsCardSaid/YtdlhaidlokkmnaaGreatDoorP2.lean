/-
Appending bytes of any source to what a call owns.
-/
import Derived.Laws.AppendOwnNone
import Derived.OwnWalkIn
import Derived.Test.YtdlhaidlokkmnaaGreatDoorP1
set_option maxRecDepth 100000
set_option maxHeartbeats 16000000
namespace Go.Proofs.YtdlhaidlokkmnaaGreatDoor
open Go.RowKit
def NB (w : World) (u : Value) (m : List Int) : Prop := (u = .slice none 0 0 ∧ m = []) ∨ ∃ ad cap, u = .slice (some ad) m.length cap ∧ ∀ j z, (bs m)[j]? = some z → w.cell? (ad.add j) = some z
theorem NB.nil (w : World) : NB w (.slice none 0 0) [] := .inl ⟨rfl, rfl⟩
theorem NB.of_sl {w : World} {v : Value} {m : List Int} (h : Sl w v 1 (m.map bcell)) (hn : ∀ len cap, v = .slice none len cap → v = .slice none 0 0) : NB w v m := by
  have h0 := h
  obtain ⟨a, cap, rfl, hs⟩ := h
  cases a with
  | none =>
    refine .inl ⟨hn _ _ rfl, ?_⟩
    rcases hs with hs | ⟨b, o, ha, _⟩
    · simpa using hs
    · cases ha
  | some ad =>
    refine .inr ⟨ad, cap, by simp, ?_⟩
    rcases hs with hs | ⟨b, o, ha, hb, hc⟩
    · have : m = [] := by simpa using hs
      subst this; intro j z hj; simp [bs] at hj
    · cases ha
      exact bytes_news fun i hi => (Sl.bytes h0 (by simp; omega)).2.2 i (by simpa using hi)
theorem NB.of_own {w : World} {base : Nat} {v : Value} {m : List Int} (h : OB w base v m) : NB w v m := by
  rcases h.2 with ⟨rfl, h0⟩ | ⟨g, cap, cur, rfl, _⟩
  · exact .inl ⟨rfl, List.length_eq_zero_iff.1 h0⟩
  · exact .inr ⟨_, cap, rfl, World.ownsRow.cells h rfl⟩
theorem NB.ext {w w1 : World} {v : Value} {m : List Int} (h : NB w v m) (hsz : ∀ ad len cap, v = .slice (some ad) len cap → 0 < len → ad.block < w.heap.size) (he : Ext w w1) : NB w1 v m := by
  rcases h with h | ⟨ad, cap, rfl, h⟩
  · exact .inl h
  · refine .inr ⟨ad, cap, rfl, fun j z hj => ?_⟩
    have hl : 0 < m.length := by
      rcases Nat.eq_zero_or_pos m.length with h0 | h0
      · have : m = [] := List.length_eq_zero_iff.1 h0
        subst this; simp [bs] at hj
      · exact h0
    have hb := hsz ad _ cap rfl hl
    rw [← h j z hj]
    exact Below.cell he (by unfold Addr.add; split <;> exact hb)
theorem run_app_bytesS {w : World} (base : Nat) (v : Value) (l : List Int) (ty : TypeId) (hown : OB w base v l) (u : Value) (m : List Int) (hu : NB w u m) (h63 : l.length + m.length ≤ 100000000000000) (hbase : base ≤ w.heap.size) :
    ∃ v' w', (Builtin.append_ #[30, 30] ty #[v, u]).run Tryz.prog w = .ok v' w' ∧ OB w' base v' (l ++ m) ∧ w.grownBy w' v.ownBlock := by
  obtain ⟨i0, hi, hz0, hz1, hz2⟩ := info_parts Tryz.infoU8
  rcases hu with ⟨rfl, rfl⟩ | ⟨ad, cap, rfl, hn⟩
  · exact ⟨v, w, run_append_owned_none (P := Tryz.prog) (w := w) base 30 ty 5 i0 1 Tryz.underlying30 hi v _ _ hown, by rw [List.append_nil]; exact hown, ⟨rfl, rfl, rfl, Nat.le_refl _, fun _ _ _ => rfl⟩⟩
  · obtain ⟨v', w', h1, h2, h3, -⟩ := run_append_own (P := Tryz.prog) w base 30 ty 5 i0 _ 1 1 Tryz.underlying30 hi hz0 hz1 hz2 rfl (by decide) v _ _ hown ad m.length cap (bs m) (by rw [bs_len, Nat.mul_one]) hn (bs_one m) (by unfold maxLen; omega) (by omega) hbase
    exact ⟨v', w', h1, OB.push h2 rfl, h3⟩
theorem app_bytesS {w : World} {ops : Array Oper} {rest : List Oper} {o : Oper} {a : Act} {Q : Exit → Act → World → Prop} (hgd : o.guard = none) (s x : Operand)
    (ho : o.op = .call { callee := .builtin .append, args := #[s, x], argTypes := #[30, 30] })
    (base : Nat) (v : Value) (l : List Int) (hs : a.eval s = v) (hown : OB w base v l) (u : Value) (m : List Int) (hx : a.eval x = u) (hu : NB w u m)
    (h63 : l.length + m.length ≤ 100000000000000) (hbase : base ≤ w.heap.size)
    (h : ∀ v' w', OB w' base v' (l ++ m) → w.grownBy w' v.ownBlock → wpList Tryz.prog ops Q rest (a.put o.dst v') w') : wpList Tryz.prog ops Q (o :: rest) a w := by
  refine wpList_plain hgd fun K hK => ?_
  obtain ⟨v', w', hr, h1, h2⟩ := run_app_bytesS base v l o.type hown u m hu h63 hbase
  unfold Oper.wp
  simp [execOp, ho, resolve, invoke, builtin, hs, hx, hr, Result.andThen]
  exact hK _ _ (h v' w' h1 h2)
theorem app_bytesIn {F : Fence} {n : Nat} {w : World} {ops : Array Oper} {rest : List Oper} {o : Oper} {a : Act} {Q : Exit → Act → World → Prop} (hgd : o.guard = none) (s x : Operand)
    (ho : o.op = .call { callee := .builtin .append, args := #[s, x], argTypes := #[30, 30] })
    (base : Nat) (v : Value) (l : List Int) (hs : a.eval s = v) (hown : OB w base v l) (u : Value) (m : List Int) (hx : a.eval x = u) (hu : NB w u m)
    (h63 : l.length + m.length ≤ 100000000000000) (hbase : base ≤ w.heap.size)
    (h : ∀ v' w', OB w' base v' (l ++ m) → w.grownBy w' v.ownBlock → wpListIn F n Tryz.prog ops Q rest (a.put o.dst v') w') : wpListIn F n Tryz.prog ops Q (o :: rest) a w := by
  refine wpListIn_plain hgd fun K hK => ?_
  obtain ⟨v', w', hr, h1, h2⟩ := run_app_bytesS base v l o.type hown u m hu h63 hbase
  unfold Oper.wpIn
  refine ⟨?_, ?_⟩
  · simp [Oper.about, ho, resolve, Target.leads, Sem.run_pure]
  · rw [Oper.semAt_plain F _ _ (by rw [ho]; intro c hc'; cases hc')]
    simp [execOp, ho, resolve, invoke, builtin, hs, hx, hr, Result.andThen]
    exact hK _ _ (h v' w' h1 h2)
structure V where
  ty : Int
  n : Int
  x : Nat
  y : Nat
  s : ByteArray
def V.zero : V := ⟨0, 0, 0, 0, ByteArray.empty⟩
def V.right (v : V) : Int := rightV v.ty v.n v.x v.y v.s
def V.wf (v : V) : Prop := (-9223372036854775808 ≤ v.n ∧ v.n < 9223372036854775808) ∧ v.x < 2 ^ 64 ∧ v.y < 2 ^ 64
theorem right_zero {ty n x y : Int} {s : ByteArray} (h : rightV ty n x y s = 0) : 1 ≤ ty ∧ ty ≤ 6 ∧ s.size ≤ 2048 ∧ (ty = 1 → n = 0 ∨ n = 1) ∧ (2 < ty → n = 0) ∧ (ty ≠ 3 → ty ≠ 4 → x = 0) ∧ (ty ≠ 4 → y = 0) ∧ (ty < 5 → s.size = 0) ∧ (ty = 5 → plainB s = true) := by
  unfold rightV at h
  (repeat' split at h) <;> first | (exfalso; omega) | skip
  rename_i h1 h2 h3 h4 h5
  refine ⟨by omega, by omega, by omega, by omega, by omega, by omega, by omega, by omega, ?_⟩
  intro h6
  cases hp : plainB s
  · exact absurd ⟨h6, hp⟩ h5
  · rfl
theorem conv_Sl {w : World} {v : Value} {l : List Int} (h : Sl w v 1 (l.map bcell)) : (convert 30 9 v).run Tryz.prog w = .ok (.string (strOfNums l)) w := by
  have h0 := h
  obtain ⟨a, cap, rfl, hs⟩ := h
  rcases hs with hn | ⟨b, o, rfl, hb, hc⟩
  · have hl : l = [] := by simpa using hn
    subst hl
    cases a with
    | none => exact run_convert_bytes_nil w _ _ Tryz.underlying30 Tryz.underlying5 _ _ _ Tryz.underlying9
    | some ad =>
      rw [run_convert_bytes_string w _ _ _ _ _ _ Tryz.underlying30 Tryz.underlying5 Tryz.underlying9]
      have hl : (loadCells ad 0).run Tryz.prog w = .ok (([] : List Int).map (Value.int .u8)).toArray w := by
        have := run_loadCells_list (P := Tryz.prog) w ad [] (fun j v hj => by simp at hj)
        simpa using this
      exact run_bytesToString w ad 0 cap [] hl
  · simp only [List.length_map] at *
    refine run_convert_bytes_arg w _ _ Tryz.underlying30 Tryz.underlying5 b o _ cap l rfl (fun i hi => ?_) _ Tryz.underlying9
    exact (Sl.bytes h0 (by omega)).2.2 i hi
theorem Sl.at_ {w : World} {a : Option Addr} {n cap k : Nat} {xss : List (List Value)} (h : Sl w (.slice a n cap) k xss) {i : Nat} (hi : i < xss.length) :
    ∃ b o, a = some ⟨b, o, none⟩ ∧ b < w.heap.size ∧ ∀ j, j < k → w.cell? ⟨b, o + i * k + j, none⟩ = (xss.getD i [])[j]? := by
  obtain ⟨a', cap', hv, hs⟩ := h
  simp only [Value.slice.injEq] at hv
  obtain ⟨rfl, -, -⟩ := hv
  rcases hs with rfl | ⟨b, o, rfl, hb, hc⟩
  · simp at hi
  · exact ⟨b, o, rfl, hb, hc i hi⟩
theorem getD_map {α β : Type} (f : α → List β) (l : List α) {i : Nat} (hi : i < l.length) : (l.map f).getD i [] = f l[i] := by simp [hi]
structure Col where
  nm : ByteArray
  ty : Int
  key : Bool
def Col.cells (c : Col) : List Value := [.string c.nm, .int .u8 c.ty, .bool c.key]
theorem Col.at_ {w wr : World} {b o : Nat} {l : List Col} {k : Nat} (hk : k < l.length) (hc : ∀ j, j < 3 → w.cell? ⟨b, o + k * 3 + j, none⟩ = ((l.map Col.cells).getD k [])[j]?) (hb : b < w.heap.size) (hE : Ext w wr) :
    wr.cell? ⟨b, o + k * 3, none⟩ = some (.string l[k].nm) ∧ wr.cell? ⟨b, o + k * 3 + 1, none⟩ = some (.int .u8 l[k].ty) ∧ wr.cell? ⟨b, o + k * 3 + 2, none⟩ = some (.bool l[k].key) := by
  rw [getD_map Col.cells l hk] at hc
  have c := hE.cells.1 b
  exact ⟨(c _ hb).trans (hc 0 (by omega)), (c _ hb).trans (hc 1 (by omega)), (c _ hb).trans (hc 2 (by omega))⟩
structure Rl where
  oid : Int
  ver : Int
  nm : ByteArray
  id : Int
  cols : List Col
def Rl.arr (r : Rl) (v : Value) : Array Value := #[.int .u32 r.oid, .int .u32 r.ver, .string r.nm, .int .u8 r.id, v]
def firstE (f : Nat → Int) : Nat → Int
  | 0 => 0
  | n + 1 => if firstE f n ≠ 0 then firstE f n else f n
theorem firstE_zero {f : Nat → Int} {n : Nat} (h : ∀ i, i < n → f i = 0) : firstE f n = 0 := by
  induction n with
  | zero => rfl
  | succ n ih =>
    have h1 := ih (fun i hi => h i (by omega))
    unfold firstE
    rw [h1, if_neg (by simp)]
    exact h n (by omega)
theorem firstE_all {f : Nat → Int} {n : Nat} (h : firstE f n = 0) : ∀ i, i < n → f i = 0 := by
  induction n with
  | zero => intro i hi; omega
  | succ n ih =>
    unfold firstE at h
    by_cases h1 : firstE f n = 0
    · rw [if_neg (by simpa using h1)] at h
      intro i hi
      by_cases e : i = n
      · subst e; exact h
      · exact ih h1 i (by omega)
    · rw [if_pos h1] at h; exact absurd h h1
theorem firstE_at {f : Nat → Int} {n k : Nat} (h : ∀ i, i < k → f i = 0) (hk : k < n) (h0 : f k ≠ 0) : firstE f n = f k := by
  induction n with
  | zero => omega
  | succ n ih =>
    unfold firstE
    by_cases e : k = n
    · subst e
      rw [if_neg (by rw [firstE_zero h]; simp)]
    · have := ih (by omega)
      rw [if_pos (by rw [this]; exact h0), this]
theorem firstE_get {f : Nat → Int} {n : Nat} (h : firstE f n ≠ 0) : ∃ k, k < n ∧ (∀ i, i < k → f i = 0) ∧ firstE f n = f k := by
  induction n with
  | zero => exact absurd rfl h
  | succ n ih =>
    unfold firstE at h ⊢
    by_cases h1 : firstE f n = 0
    · rw [if_neg (by simpa using h1)]
      exact ⟨n, by omega, firstE_all h1, rfl⟩
    · rw [if_pos h1]
      obtain ⟨k, hk, h2, h3⟩ := ih h1
      exact ⟨k, by omega, h2, h3⟩
def chr (s : ByteArray) (i : Nat) : Int := if h : i < s.size then (s[i].toNat : Int) else 0
theorem chr_lt {s : ByteArray} {i : Nat} (h : i < s.size) : chr s i = (s[i].toNat : Int) := by unfold chr; rw [dif_pos h]
def nameAt (s : ByteArray) (i : Nat) : Bool := decide ((97 ≤ chr s i ∧ chr s i ≤ 122) ∨ (0 < i ∧ ((48 ≤ chr s i ∧ chr s i ≤ 57) ∨ chr s i = 95)))
def namedB (s : ByteArray) : Bool := decide (1 ≤ s.size ∧ s.size ≤ 31) && (List.range s.size).all (nameAt s)
theorem named_no {s : ByteArray} {k : Nat} (hk : k < s.size) (h : nameAt s k = false) : namedB s = false := by
  unfold namedB
  rw [Bool.and_eq_false_iff]
  right
  rw [List.all_eq_false]
  exact ⟨k, List.mem_range.2 hk, by simp [h]⟩
theorem named_yes {s : ByteArray} (h : ∀ j, j < s.size → nameAt s j = true) : namedB s = decide (1 ≤ s.size ∧ s.size ≤ 31) := by
  unfold namedB
  have : (List.range s.size).all (nameAt s) = true := List.all_eq_true.2 fun x hx => h x (List.mem_range.1 hx)
  rw [this, Bool.and_true]
theorem named_len {s : ByteArray} (h : ¬ (1 ≤ s.size ∧ s.size ≤ 31)) : namedB s = false := by
  unfold namedB; rw [decide_eq_false h]; rfl
theorem name_cases {s : ByteArray} {k : Nat} (h : k < s.size) :
    (nameAt s k = true ∧ ((97 ≤ (s[k].toNat : Int) ∧ (s[k].toNat : Int) ≤ 122) ∨ (0 < k ∧ 48 ≤ (s[k].toNat : Int) ∧ (s[k].toNat : Int) ≤ 57) ∨ (0 < k ∧ (s[k].toNat : Int) = 95))) ∨
    (nameAt s k = false ∧ ((k = 0 ∧ (s[k].toNat : Int) < 97) ∨ (k = 0 ∧ 122 < (s[k].toNat : Int)) ∨ (0 < k ∧ (s[k].toNat : Int) < 48) ∨ (0 < k ∧ 57 < (s[k].toNat : Int) ∧ (s[k].toNat : Int) < 95) ∨ (0 < k ∧ 95 < (s[k].toNat : Int) ∧ (s[k].toNat : Int) < 97) ∨ (0 < k ∧ 122 < (s[k].toNat : Int)))) := by
  unfold nameAt
  rw [decide_eq_true_iff, decide_eq_false_iff_not, chr_lt h]
  omega
def colE (c : Col) (ahead : List Col) : Int := if namedB c.nm = false then 3 else if ahead.any (fun o => decide (o.nm = c.nm)) = true then 9 else if c.ty < 1 ∨ 6 < c.ty then 11 else 0
def colAt (cols : List Col) (i : Nat) : Int := if h : i < cols.length then colE cols[i] (cols.take i) else 0
theorem colAt_lt {cols : List Col} {i : Nat} (h : i < cols.length) : colAt cols i = colE cols[i] (cols.take i) := by unfold colAt; rw [dif_pos h]
def Rl.right (r : Rl) : Int :=
  if r.oid = 0 ∨ r.ver = 0 then 4 else if namedB r.nm = false then 3 else if 2 < r.id then 7 else if r.cols.length < 1 ∨ 16 < r.cols.length then 17
  else if firstE (colAt r.cols) r.cols.length ≠ 0 then firstE (colAt r.cols) r.cols.length
  else if r.id = 1 ∧ r.cols.any Col.key = false then 13 else 0
structure Rl.wf (r : Rl) : Prop where
  nm : r.nm.size ≤ 9223372036854775807
  cols : ∀ c ∈ r.cols, c.nm.size ≤ 9223372036854775807
end Go.Proofs.YtdlhaidlokkmnaaGreatDoor
