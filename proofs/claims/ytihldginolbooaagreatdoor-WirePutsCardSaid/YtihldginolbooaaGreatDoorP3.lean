/-
The laws' Own of a relation.
-/
import Derived.Deep.AppendLies
import Derived.Test.YtihldginolbooaaGreatDoorP2
namespace Go.Proofs.YtihldginolbooaaGreatDoor
open Go.RowKit

theorem Blk.grown {w w1 : World} {row : Option Nat} {g : Nat} {cs : Array Value} {t : TypeId} (h : Blk w g cs t) (hg : w.grownBy w1 row) (hne : row ≠ some g) : Blk w1 g cs t :=
  (hg.block g h.lt (fun e => hne e.symm)).trans h
theorem owns_set {w : World} {base : Nat} {e : TypeId} {size n : Nat} {v : Value} {xs : List Value} (h : w.ownsRow base e size v n xs) {p : Addr} (hp : p.block < base) (u : Value) : (w.setCell p u).ownsRow base e size v n xs := by
  obtain ⟨h1, h2⟩ := h
  refine ⟨h1, ?_⟩
  rcases h2 with h2 | ⟨g, cap, cur, hv, hg, hh, hr⟩
  · exact .inl h2
  · exact .inr ⟨g, cap, cur, hv, hg, Blk.other (b := g) hh p u (by omega), hr⟩
theorem owns_ne {w : World} {base g : Nat} {e : TypeId} {size n : Nat} {v : Value} {xs : List Value} (h : w.ownsRow base e size v n xs) (hg : g < base) : v.ownBlock ≠ some g := fun he => by
  have := (h.lt _ he).1; omega

theorem Tryz.infoCol : (Tryz.prog.info? 116).map (fun i => (i.zero, i.size, i.bytes)) = some (some (.agg #[.string ByteArray.empty, .int .u8 0, .bool false]), 3, 24) := by kernel_rfl

theorem flat_snoc {α β : Type} {f : α → List β} {l : List α} {k : Nat} (h : k < l.length) : ((l.map f).take (k + 1)).flatten = ((l.map f).take k).flatten ++ f l[k] := by
  rw [List.take_succ_eq_append_getElem (by simpa using h), List.flatten_append]; simp
theorem owns_cap {w : World} {base : Nat} {e : TypeId} {size n m c : Nat} {a : Option Addr} {xs : List Value} (h : w.ownsRow base e size (.slice a m c) n xs) : m ≤ c := by
  rcases h.2 with ⟨h1, h0⟩ | ⟨g, cap, cur, hv, _, _, hn, _⟩
  · simp at h1; omega
  · simp at hv; omega
theorem owns_shape {w : World} {base : Nat} {e : TypeId} {size n : Nat} {v : Value} {xs : List Value} (h : w.ownsRow base e size v n xs) : ∃ a cap, v = .slice a n cap := by
  rcases h.2 with ⟨rfl, h0⟩ | ⟨g, cap, cur, hv, _⟩
  · exact ⟨none, 0, by rw [h0]⟩
  · exact ⟨_, cap, hv⟩

end Go.Proofs.YtihldginolbooaaGreatDoor

/-
Catalogs in memory: what may have been written; relations that lie somewhere; the catalog.
-/
namespace Go.Proofs.YtihldginolbooaaGreatDoor
open Go.RowKit

/-- Of the blocks that there were only those of S may have been written. -/
structure Kp (S : Nat → Prop) (w w' : World) : Prop where
  os : w'.os = w.os
  tape : w'.tape = w.tape
  output : w'.output = w.output
  size : w.heap.size ≤ w'.heap.size
  block : ∀ k, k < w.heap.size → ¬ S k → w'.heap[k]? = w.heap[k]?
section
variable {S T : Nat → Prop} {a b c w w' : World}
theorem Kp.refl : Kp S w w := ⟨rfl, rfl, rfl, Nat.le_refl _, fun _ _ _ => rfl⟩
theorem Kp.trans (h : Kp S a b) (k : Kp T b c) (hT : ∀ x, T x → x < a.heap.size → S x) : Kp S a c :=
  ⟨k.os.trans h.os, k.tape.trans h.tape, k.output.trans h.output, Nat.le_trans h.size k.size, fun i hi hs => (k.block i (Nat.lt_of_lt_of_le hi h.size) (fun ht => hs (hT i ht hi))).trans (h.block i hi hs)⟩
theorem Kp.of_ext (h : Ext w w') : Kp S w w' := ⟨h.os, h.tape, h.output, h.size, fun k hk _ => h.block k hk⟩
theorem Kp.ext (hE : Ext w a) (hS : ∀ x, S x → x < a.heap.size → w.heap.size ≤ x) (h : Kp S a b) : Ext w b :=
  Below.trans hE ⟨h.os, h.tape, h.output, h.size, fun k hk => h.block k (Nat.lt_of_lt_of_le hk hE.size) (fun hs => by have := hS k hs (Nat.lt_of_lt_of_le hk hE.size); omega)⟩
theorem Kp.of_grown {row : Option Nat} (h : w.grownBy w' row) : Kp (fun k => row = some k) w w' := ⟨h.os, h.tape, h.output, h.size, fun k hk hs => h.block k hk (fun e => hs e.symm)⟩
theorem Kp.mono (h : Kp S w w') (hs : ∀ x, S x → x < w.heap.size → T x) : Kp T w w' := ⟨h.os, h.tape, h.output, h.size, fun k hk ht => h.block k hk (fun q => ht (hs k q hk))⟩
theorem Kp.set (p : Addr) (u : Value) (h : S p.block) : Kp S w (w.setCell p u) := ⟨rfl, rfl, rfl, by simp [World.setCell], fun k _ hs => Below.heap_setCell _ _ _ _ (fun e => hs (e ▸ h))⟩
theorem Kp.cell (h : Kp S w w') {b : Nat} (hb : b < w.heap.size) (hs : ¬ S b) (o : Nat) : w'.cell? ⟨b, o, none⟩ = w.cell? ⟨b, o, none⟩ := World.cell?_of_block (w := w) (h.block b hb hs)
theorem Blk.kp {g : Nat} {cs : Array Value} {t : TypeId} (h : Blk w g cs t) (k : Kp S w w') (hs : ¬ S g) : Blk w' g cs t := (k.block g h.lt hs).trans h
theorem Sl.kp {x : Option Addr} {n c k : Nat} {xss : List (List Value)} (h : Sl w (.slice x n c) k xss) (hk : Kp S w w') (hs : xss ≠ [] → ∀ b o, x = some ⟨b, o, none⟩ → ¬ S b) : Sl w' (.slice x n c) k xss := by
  obtain ⟨x', c', hv, h⟩ := h
  simp only [Value.slice.injEq] at hv
  obtain ⟨rfl, rfl, rfl⟩ := hv
  rcases h with h | ⟨b, o, rfl, hb, hc⟩
  · exact ⟨_, _, rfl, .inl h⟩
  · by_cases h0 : xss = []
    · exact ⟨_, _, rfl, .inl h0⟩
    · refine ⟨_, _, rfl, .inr ⟨b, o, rfl, Nat.lt_of_lt_of_le hb hk.size, fun i hi j hj => ?_⟩⟩
      rw [← hc i hi j hj]
      exact hk.cell hb (hs h0 b o rfl) _
theorem owns_kp {base n size : Nat} {e : TypeId} {v : Value} {xs : List Value} (h : w.ownsRow base e size v n xs) (hk : Kp S w w') (hs : ∀ b, v.ownBlock = some b → ¬ S b) : w'.ownsRow base e size v n xs := by
  obtain ⟨h1, h2⟩ := h
  refine ⟨h1, ?_⟩
  rcases h2 with h2 | ⟨g, cap, cur, rfl, hg, hh, hr⟩
  · exact .inl h2
  · exact .inr ⟨g, cap, cur, rfl, hg, Blk.kp (g := g) hh hk (hs g rfl), hr⟩
theorem owns_lt3 {base n size : Nat} {e : TypeId} {v : Value} {xs : List Value} (h : w.ownsRow base e size v n xs) {g : Nat} (hg : v.ownBlock = some g) : base ≤ g ∧ g < w.heap.size := h.lt g hg
end

/-- What is known of a relation of the arguments. -/
structure Rl.wb (r : Rl) : Prop where
  nm : r.nm.size ≤ 9223372036854775807
  cs : ∀ c ∈ r.cols, c.nm.size ≤ 9223372036854775807
  n : r.cols.length ≤ 5864062014634
  idn : 0 ≤ r.id
theorem Rl.cols_le {r : Rl} (h : r.right = 0) : r.cols.length ≤ 16 := by
  unfold Rl.right at h
  repeat' split at h
  all_goals first | omega | cases h

/-- A relation that lies somewhere. -/
structure RR where
  r : Rl
  a : Option Addr
  c : Nat
def RR.cells (p : RR) : List Value := [.int .u32 p.r.oid, .int .u32 p.r.ver, .string p.r.nm, .int .u8 p.r.id, .slice p.a p.r.cols.length p.c]
def RR.agg (p : RR) : Value := .agg #[.int .u32 p.r.oid, .int .u32 p.r.ver, .string p.r.nm, .int .u8 p.r.id, .slice p.a p.r.cols.length p.c]
/-- Its columns lie there. -/
def RR.in (W : World) (p : RR) : Prop := Sl W (.slice p.a p.r.cols.length p.c) 3 (p.r.cols.map Col.cells)
theorem RR.in.ext {w w' : World} {p : RR} (h : p.in w) (he : Ext w w') : p.in w' := Sl.ext h he
theorem RR.at_ {w wr : World} {b o : Nat} {l : List RR} {k : Nat} (hk : k < l.length) (hc : ∀ j, j < 5 → w.cell? ⟨b, o + k * 5 + j, none⟩ = ((l.map RR.cells).getD k [])[j]?) (hb : b < w.heap.size) (hE : Ext w wr) :
    wr.cell? ⟨b, o + k * 5, none⟩ = some (.int .u32 l[k].r.oid) ∧ wr.cell? ⟨b, o + k * 5 + 1, none⟩ = some (.int .u32 l[k].r.ver) ∧ wr.cell? ⟨b, o + k * 5 + 2, none⟩ = some (.string l[k].r.nm) ∧ wr.cell? ⟨b, o + k * 5 + 3, none⟩ = some (.int .u8 l[k].r.id) ∧
      wr.cell? ⟨b, o + k * 5 + 4, none⟩ = some (.slice l[k].a l[k].r.cols.length l[k].c) := by
  rw [getD_map RR.cells l hk] at hc
  have c := hE.cells.1 b
  exact ⟨(c _ hb).trans (hc 0 (by omega)), (c _ hb).trans (hc 1 (by omega)), (c _ hb).trans (hc 2 (by omega)), (c _ hb).trans (hc 3 (by omega)), (c _ hb).trans (hc 4 (by omega))⟩
theorem RR.len (l : List RR) : ∀ xs ∈ l.map RR.cells, xs.length = 5 := by
  intro xs hxs
  rw [List.mem_map] at hxs
  obtain ⟨p, _, rfl⟩ := hxs
  rfl
theorem RR.flat_len (l : List RR) : (l.map RR.cells).flatten.length = l.length * 5 := by
  have := flat_length 5 (l.map RR.cells) (RR.len l)
  rwa [List.length_map] at this
theorem RR.one (l : List RR) : ∀ u ∈ (l.map RR.cells).flatten, u.oneCell' = true := by
  intro u hu
  rw [List.mem_flatten] at hu
  obtain ⟨xs, hxs, hu⟩ := hu
  rw [List.mem_map] at hxs
  obtain ⟨p, _, rfl⟩ := hxs
  simp [RR.cells] at hu
  rcases hu with rfl | rfl | rfl | rfl | rfl <;> rfl

/-- Relations in a row. -/
structure RL (W : World) (v : Value) (ps : List RR) : Prop where
  row : Sl W v 5 (ps.map RR.cells)
  sl : ∀ p ∈ ps, p.in W
theorem RL.ext {w w' : World} {v : Value} {ps : List RR} (h : RL w v ps) (he : Ext w w') : RL w' v ps := ⟨h.row.ext he, fun p hp => (h.sl p hp).ext he⟩
theorem RL.nil (w : World) : RL w (.slice none 0 0) [] := ⟨⟨none, 0, rfl, .inl rfl⟩, fun p h => by cases h⟩
theorem RL.shape {w : World} {v : Value} {ps : List RR} (h : RL w v ps) : ∃ a c, v = .slice a ps.length c := by
  obtain ⟨a, c, rfl, -⟩ := h.row.shape (n := ps.length) (by simp)
  exact ⟨a, c, rfl⟩
theorem RL.kp {S : Nat → Prop} {w w' : World} {x : Option Addr} {n c : Nat} {ps : List RR} (h : RL w (.slice x n c) ps) (hk : Kp S w w') (hs : ∀ b o, x = some ⟨b, o, none⟩ → ¬ S b) (hp : ∀ p ∈ ps, p.r.cols ≠ [] → ∀ b o, p.a = some ⟨b, o, none⟩ → ¬ S b) : RL w' (.slice x n c) ps :=
  ⟨h.row.kp hk (fun _ => hs), fun p hq => Sl.kp (h.sl p hq) hk (fun h0 => hp p hq (fun h1 => h0 (by rw [h1]; rfl)))⟩

/-- One more, at its place. -/
def insP (ps : List RR) (q : RR) : List RR := ps.take (posR q.r.oid q.r.ver (ps.map RR.r)) ++ q :: ps.drop (posR q.r.oid q.r.ver (ps.map RR.r))
theorem insP_r (ps : List RR) (q : RR) : (insP ps q).map RR.r = insR (ps.map RR.r) q.r := by
  unfold insP insR
  rw [List.map_append, List.map_cons, List.map_take, List.map_drop]
theorem insP_len (ps : List RR) (q : RR) : (insP ps q).length = ps.length + 1 := by
  have := insR_len (ps.map RR.r) q.r
  rw [← insP_r, List.length_map, List.length_map] at this
  exact this
theorem insP_mem {ps : List RR} {q x : RR} (h : x ∈ insP ps q) : x = q ∨ x ∈ ps := by
  unfold insP at h
  rw [List.mem_append, List.mem_cons] at h
  rcases h with h | h | h
  · exact .inr (List.mem_of_mem_take h)
  · exact .inl h
  · exact .inr (List.mem_of_mem_drop h)
theorem insP_flat (ps : List RR) (q : RR) : ((insP ps q).map RR.cells).flatten = ((ps.map RR.cells).flatten).take (posR q.r.oid q.r.ver (ps.map RR.r) * 5) ++ (q.cells ++ ((ps.map RR.cells).flatten).drop (posR q.r.oid q.r.ver (ps.map RR.r) * 5)) := by
  have hk := posR_le q.r.oid q.r.ver (ps.map RR.r)
  rw [List.length_map] at hk
  unfold insP
  generalize posR q.r.oid q.r.ver (ps.map RR.r) = k at hk ⊢
  have e : (ps.map RR.cells).flatten = ((ps.take k).map RR.cells).flatten ++ ((ps.drop k).map RR.cells).flatten := by
    rw [← List.flatten_append, ← List.map_append, List.take_append_drop]
  have hl : ((ps.take k).map RR.cells).flatten.length = k * 5 := by rw [RR.flat_len, List.length_take]; congr 1; omega
  rw [e, List.take_left' hl, List.drop_left' hl, List.map_append, List.map_cons, List.flatten_append, List.flatten_cons]

/-- The program's catalog: in block g, its row v, both from N on; its relations' columns from N on. -/
structure Ca (W : World) (N g : Nat) (v : Value) (ps : List RR) : Prop where
  ptr : Blk W g #[v] 146
  own : W.ownsRow N 49 5 v ps.length (ps.map RR.cells).flatten
  gN : N ≤ g
  gv : v.ownBlock ≠ some g
  sl : ∀ p ∈ ps, p.in W
  ne : ∀ p ∈ ps, p.r.cols ≠ [] → ∀ b o, p.a = some ⟨b, o, none⟩ → b ≠ g ∧ v.ownBlock ≠ some b ∧ N ≤ b ∧ b < W.heap.size
  ok : CatOk (ps.map RR.r)
  wb : ∀ p ∈ ps, p.r.wb
/-- What adding to it may write. -/
def Ca.S (g : Nat) (v : Value) (k : Nat) : Prop := k = g ∨ v.ownBlock = some k
section
variable {W W' : World} {N g : Nat} {v : Value} {ps : List RR}
theorem Ca.kp {S : Nat → Prop} (h : Ca W N g v ps) (hk : Kp S W W') (h1 : ¬ S g) (h2 : ∀ b, v.ownBlock = some b → ¬ S b) (h3 : ∀ p ∈ ps, p.r.cols ≠ [] → ∀ b o, p.a = some ⟨b, o, none⟩ → ¬ S b) : Ca W' N g v ps :=
  ⟨h.ptr.kp hk h1, owns_kp h.own hk h2, h.gN, h.gv, fun p hp => Sl.kp (h.sl p hp) hk (fun h0 => h3 p hp (fun q => h0 (by rw [q]; rfl))), fun p hp h0 b o e => by
    obtain ⟨q1, q2, q3, q4⟩ := h.ne p hp h0 b o e
    exact ⟨q1, q2, q3, Nat.lt_of_lt_of_le q4 hk.size⟩, h.ok, h.wb⟩
theorem Ca.ext (h : Ca W N g v ps) (he : Ext W W') : Ca W' N g v ps :=
  h.kp (S := fun _ => False) (Kp.of_ext he) (fun h => h) (fun _ _ h => h) (fun _ _ _ _ _ _ h => h)
theorem Ca.rl (h : Ca W N g v ps) : RL W v ps := ⟨Sl.of_owns (base := N) (e := 49) (by rw [List.length_map]; exact h.own) (RR.len ps), h.sl⟩
theorem Ca.shape (h : Ca W N g v ps) : ∃ a c, v = .slice a ps.length c := owns_shape h.own
theorem Ca.n64 (h : Ca W N g v ps) : ps.length ≤ 64 := by have := h.ok.n64; rwa [List.length_map] at this
theorem Ca.n16 (h : Ca W N g v ps) {p : RR} (hp : p ∈ ps) : p.r.cols.length ≤ 16 := Rl.cols_le (h.ok.right _ (List.mem_map_of_mem hp))
end

end Go.Proofs.YtihldginolbooaaGreatDoor
