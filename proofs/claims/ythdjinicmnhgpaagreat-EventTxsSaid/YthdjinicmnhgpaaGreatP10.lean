import Derived.RangeFuncNested
import Derived.RangeFuncBound
import Derived.RangeFuncCalls
import Derived.RangeFuncLeaves
import Derived.RangeFuncBox
import Derived.Shelf.Abstract
import Derived.Shelf.RegionOpen
import Derived.OwnWalkIn
import Derived.TacticsInMore
import Derived.LoopNIn
import Derived.LoopIn
import Derived.RangeFuncOne
import Derived.Test.YthdjinicmnhgpaaGreatP9

/-
The youngest relation of an oid: the program's Last, over slices.Backward.
-/
namespace Go.Proofs.YthdjinicmnhgpaaGreat
open Go.RowKit Go.Shelf
attribute [local go_sem] Oper.semAt_some

abbrev IX (n : Nat) := { i : Nat // i < n }
/-- The last k places, from the last one on. -/
def backUp (n : Nat) : Nat → List (IX n)
  | 0 => []
  | k + 1 => if h : k < n then backUp n k ++ [⟨n - 1 - k, by omega⟩] else backUp n k
theorem backUp_succ {n k : Nat} (h : k < n) : backUp n (k + 1) = backUp n k ++ [⟨n - 1 - k, by omega⟩] := by
  conv => lhs; unfold backUp
  rw [dif_pos h]
theorem backUp_len {n : Nat} : ∀ k, (backUp n k).length ≤ k
  | 0 => Nat.le_refl _
  | k + 1 => by
    have := backUp_len (n := n) k
    unfold backUp
    split
    · rw [List.length_append, List.length_singleton]; omega
    · omega
theorem backUp_mem {n : Nat} : ∀ k, k ≤ n → ∀ x : IX n, x ∈ backUp n k ↔ n - k ≤ x.1
  | 0, _, x => by have := x.2; simp [backUp]; omega
  | k + 1, hk, x => by
    have ih := backUp_mem k (by omega) x
    have hx := x.2
    rw [backUp_succ (by omega), List.mem_append, ih, List.mem_singleton]
    constructor
    · rintro (h | h)
      · omega
      · have := congrArg Subtype.val h; simp only at this; omega
    · intro h
      by_cases e : x.1 = n - 1 - k
      · right; exact Subtype.ext e
      · left; omega
def encB (ps : List RR) (x : IX ps.length) : Array Value := #[.int .i64 (x.1 : Int), .agg #[.int .u32 (ps[x.1]'x.2).r.oid, .int .u32 (ps[x.1]'x.2).r.ver, .string (ps[x.1]'x.2).r.nm, .int .u8 (ps[x.1]'x.2).r.id, .slice (ps[x.1]'x.2).a (ps[x.1]'x.2).r.cols.length (ps[x.1]'x.2).c]]

/-- The youngest one, from the back. -/
theorem lastUp_from {o : Int} {ps : List RR} {i : Nat} (h : ∀ j (hj : j < ps.length), i < j → ps[j].r.oid ≠ o) : ∀ k, k + i + 1 = ps.length → lastUp o ps ps.length = lastUp o ps (i + 1) := by
  have : ∀ m, i + 1 + m ≤ ps.length → lastUp o ps (i + 1 + m) = lastUp o ps (i + 1) := by
    intro m
    induction m with
    | zero => intro _; rfl
    | succ m ih =>
      intro hm
      rw [show i + 1 + (m + 1) = (i + 1 + m) + 1 by omega, lastUp_miss (by omega) (h _ (by omega) (by omega))]
      exact ih (by omega)
  intro k hk
  have h2 := this k (by omega)
  rw [show i + 1 + k = ps.length by omega] at h2
  exact h2
theorem lastUp_none {o : Int} {ps : List RR} (h : ∀ j (hj : j < ps.length), ps[j].r.oid ≠ o) : ∀ k, lastUp o ps k = none
  | 0 => rfl
  | k + 1 => by
    unfold lastUp
    rw [dif_neg (fun q => h k q.1 q.2)]
    exact lastUp_none h k

theorem owns_kept {A B : World} {row : Option Nat} {base n size : Nat} {e : TypeId} {v : Value} {xs : List Value} (h : A.ownsRow base e size v n xs) (hg : A.grownBy B row) (hr : ∀ r, row = some r → ∃ o : Obj, A.heap[r]? = some o ∧ o.isCells = false) : B.ownsRow base e size v n xs := by
  refine owns_kp h (Kp.of_grown hg) (fun b hb e => ?_)
  obtain ⟨o, ho, hn⟩ := hr b e
  rcases h.2 with ⟨rfl, _⟩ | ⟨g, cap, cur, rfl, hbg, hh, _⟩
  · simp [Value.ownBlock] at hb
  · simp [Value.ownBlock] at hb; subst hb
    rw [hh] at ho; cases ho; simp [Obj.isCells] at hn

/-- What Last leaves in its two results' cells. -/
structure LastAt (N : Nat) (w W : World) (q : RR) : Prop where
  c0 : W.cell? ⟨w.heap.size + 1, 0, none⟩ = some (.int .u32 q.r.oid)
  c1 : W.cell? ⟨w.heap.size + 1, 1, none⟩ = some (.int .u32 q.r.ver)
  c2 : W.cell? ⟨w.heap.size + 1, 2, none⟩ = some (.string q.r.nm)
  c3 : W.cell? ⟨w.heap.size + 1, 3, none⟩ = some (.int .u8 q.r.id)
  c4 : W.cell? ⟨w.heap.size + 1, 4, none⟩ = some (.slice q.a q.r.cols.length q.c)
  b : W.cell? ⟨w.heap.size + 1 + 1, 0, none⟩ = some (.bool true)
  own : q.owned N W
theorem LastAt.kept {N : Nat} {w A B : World} {q : RR} {row : Option Nat} (h : LastAt N w A q) (hg : A.grownBy B row) (hr : ∀ r, row = some r → ∃ o : Obj, A.heap[r]? = some o ∧ o.isCells = false) : LastAt N w B q :=
  ⟨cell_kept h.c0 hg hr, cell_kept h.c1 hg hr, cell_kept h.c2 hg hr, cell_kept h.c3 hg hr, cell_kept h.c4 hg hr, cell_kept h.b hg hr, owns_kept h.own hg hr⟩

end Go.Proofs.YthdjinicmnhgpaaGreat

/-
A range over an iterator that hands out what it has laid down itself: the iterator's word tells of each thing handed out what the memory holds then; a loop whose body always goes on.
-/
namespace Go.Proofs.YthdjinicmnhgpaaGreat
open Go.RowKit

variable {F : Fence} {n : Nat} {P : Program}

/-- The iterator's word: what is handed out meets C in the memory as it is then. -/
def SeqTold {α : Type} (F : Fence) (n : Nat) (P : Program) (g : Nat) (lb : Array Value) (encs : α → Array Value) (C : α → World → Prop) (S : List α → Prop) (N B0 : Nat) (w : World) : Prop :=
  ∀ (l : Nat) (J : List α → World → Prop) (W : World), Below w.heap.size w W → AbidesFrom W.heap.size J →
    (∀ pre x W1, J pre W1 → pre.length < N → C x W1 → YieldAt F (n - 1) P l (encs x) W1 fun e W' => e = .returned (.bool true) ∧ J (pre ++ [x]) W' ∧ Below B0 W1 W') →
    J [] W →
    CallsIn F n P g (#[.func (.yield l) #[] #[]] ++ lb) W fun e W' => (∃ v, e = .returned v) ∧ ∃ xs, S xs ∧ J xs W'

/-- How a body that always goes on is left. -/
def goesOn {α : Type} (B B0 : Nat) (I : List α → World → Prop) (xs : List α) (W : World) : Exit → Act → World → Prop
  | .normal, _, W' => KeepsFrom B W W' ∧ Below B0 W W' ∧ I xs W'
  | _, _, _ => False

theorem below_putObj {B0 : Nat} (W : World) (l : Nat) (o' : Obj) (h : B0 ≤ l) : Below B0 W (W.putObj l o') :=
  have hg := grownBy_putObj' W l o'
  ⟨hg.os, hg.tape, hg.output, hg.size, fun k hk => by
    rcases Nat.lt_or_ge k W.heap.size with h1 | h1
    · exact hg.block k h1 (fun e => by cases e; omega)
    · exact World.putObj_heap_other (by omega)⟩

theorem wpIn_range_told {α : Type} {g : Operand} {ps : Array Tmp} {assign body : Code} {Q : Exit → Act → World → Prop} {a : Act} {w : World}
    (hro : F.round = none) (h1 : 1 ≤ n) {gf : Nat} {lb : Array Value} (hg : a.eval g = .func (.func gf) #[] lb) (hFg : F.fn gf) (eg : ∀ args w, (callFunc gf args).run P w = .ok (.enter gf args) w)
    {encs : α → Array Value} {C : α → World → Prop} {S : List α → Prop} {N B0 : Nat} {w0 : World} (hseq : SeqTold F (n - 1) P gf lb encs C S N B0 w0) (hB0 : B0 ≤ w.heap.size) (hb0 : Below w0.heap.size w0 w) (hps : ∀ x, (encs x).size = ps.size)
    (I : List α → World → Prop) (hI : OwnFrom w.heap.size I) (h0 : I [] w) (Ax : α → Act → World → Prop)
    (hAx : ∀ x a' W l o', Ax x a' W → w.heap.size ≤ l → (∃ o, W.heap[l]? = some o ∧ o.isCells = false) → Ax x a' (W.putObj l o'))
    (hassign : ∀ (l : Nat) (pre : List α) (x : α) (W : World) (K : Act → World → Prop), I pre W → C x W → (∀ a' W', KeepsFrom w.heap.size W W' → Below B0 W W' → I pre W' → Ax x a' W' → K a' W') →
      assign.wpIn (F.inRound l) (n - 1 - 1) P (Exit.then K (fun _ _ _ => False)) { tmps := (ps.zip (encs x)).foldl (fun t (p, v) => t.setIfInBounds p v) a.tmps, defers := [] } W)
    (hbody : ∀ (l : Nat) (pre : List α) (x : α) (a' : Act) (W : World), I pre W → pre.length < N → Ax x a' W → body.wpIn (F.inRound l) (n - 1 - 1) P (goesOn w.heap.size B0 I (pre ++ [x]) W) a' W)
    (hdone : ∀ (D : Nat) (xs : List α) (W : World), w.heap.size ≤ D → S xs → I xs W → W.heap[D]? = some (.deferred (some [])) → Q .normal { a with defers := { target := .collected D, args := #[] } :: a.defers } W) :
    (Code.rangeFunc g ps assign body).wpIn F n P Q a w := by
  refine wpIn_rangeFunc ?_
  intro fn hfn
  rw [hro]
  have hw0 : w0.heap.size ≤ w.heap.size := hb0.size
  obtain ⟨rec, hrec⟩ : ∃ rec : LoopState → Option Code → Loop, rec = fun st pe => { state := st, pending := pe, fn, tmps := a.tmps, params := ps, assign, body, defers := w.heap.size } := ⟨_, rfl⟩
  obtain ⟨W1, hW1⟩ : ∃ W1, (w.alloc (.deferred (some []))).alloc (.loop (rec .ready none)) = W1 := ⟨_, rfl⟩
  have hs1 : W1.heap.size = w.heap.size + 2 := by rw [← hW1]; simp
  have hL1 : W1.heap[w.heap.size + 1]? = some (.loop (rec .ready none)) := by
    rw [← hW1]; have := World.alloc_heap_new (w.alloc (.deferred (some []))) (.loop (rec .ready none)); rwa [World.size_alloc] at this
  have hK1 : W1.heap[w.heap.size]? = some (.deferred (some [])) := by
    rw [← hW1]; exact (Below.heap_alloc _ _ _ (by simp)).trans (World.alloc_heap_new w _)
  refine ⟨w.heap.size + 1, [{ target := .collected w.heap.size, args := #[] }], W1, { target := .fn (.func gf) lb, args := #[.func (.yield (w.heap.size + 1)) #[] #[]] }, W1, gf,
    #[.func (.yield (w.heap.size + 1)) #[] #[]] ++ lb, W1, ?_, ?_, ?_, ?_, fun _ => h1, ?_⟩
  · rw [← hW1, hrec]; exact run_enterLoop_outer _ _ _ _ _
  · simp only [resolve, hg]
    simp [go_sem]
  · intro f' hf'; simp [Target.leads] at hf'; subst hf'; exact hFg
  · simp [invoke, go_sem, eg]
  refine (hseq (w.heap.size + 1) (fun pre W => I pre W ∧ W.heap[w.heap.size + 1]? = some (.loop (rec .ready none)) ∧ W.heap[w.heap.size]? = some (.deferred (some []))) W1
    (by rw [← hW1]; exact hb0.trans ((((Below.refl _ w).alloc (Nat.le_refl _) _).alloc (by simp) _).mono hw0))
    (fun s A B row hs hg' hr => ⟨hI s A B row hs.1 hg' (fun r e => by obtain ⟨q1, o, q2, q3⟩ := hr r e; exact ⟨by omega, o, q2, Obj.not_cells_of_walk q3⟩), (grownBy_keeps hg' (fun r e => (hr r e).2) hs.2.1 rfl).trans hs.2.1, (grownBy_keeps hg' (fun r e => (hr r e).2) hs.2.2 rfl).trans hs.2.2⟩)
    ?_ ⟨by rw [← hW1]; exact hI.alloc _ (hI.alloc _ h0), hL1, hK1⟩).mono ?_
  · rintro pre x W ⟨hi, hl, hk⟩ hlen hc
    have hlt : w.heap.size + 1 < W.heap.size := (Array.getElem?_eq_some_iff.1 hl).1
    have hy := run_yield (P := P) (args := encs x) hl (by rw [hrec]; exact hps x)
    rw [hrec] at hy
    refine ⟨fn, _, assign, body, hy, roundIn_of_wpIn hfn (hassign _ pre x W _ hi hc (fun a' W' hkp hbl hi' hax => ?_))⟩
    have hl' : W'.heap[w.heap.size + 1]? = some (.loop (rec .ready none)) := hkp.same _ _ (by omega) hl rfl
    have hk' : W'.heap[w.heap.size]? = some (.deferred (some [])) := hkp.same _ _ (Nat.le_refl _) hk rfl
    have hlt' : w.heap.size + 1 < W'.heap.size := (Array.getElem?_eq_some_iff.1 hl').1
    refine ⟨_, run_beginRound hl' (by rw [hrec]), ?_⟩
    obtain ⟨V, hV⟩ : ∃ V, V = W'.putObj (w.heap.size + 1) (.loop { rec .ready none with state := .busy }) := ⟨_, rfl⟩
    have hl2 : V.heap[w.heap.size + 1]? = some (.loop { rec .ready none with state := .busy }) := by rw [hV]; exact World.putObj_heap_same hlt'
    have hk2 : V.heap[w.heap.size]? = some (.deferred (some [])) := by rw [hV]; exact (World.putObj_heap_other (by omega)).trans hk'
    have hVb : Below B0 W V := by rw [hV]; exact hbl.trans (below_putObj _ _ _ (by omega))
    have hVI : I pre V := by rw [hV]; exact hI.putObj _ hi' (by omega) hl' rfl
    have hVA : Ax x a' V := by rw [hV]; exact hAx x a' W' _ _ hax (by omega) ⟨_, hl', rfl⟩
    rw [← hV]
    refine wpIn_mono (hbody _ pre x a' V hVI hlen hVA) ?_
    rintro e a3 W3 hp
    cases e with
    | normal =>
      obtain ⟨hk3, hkp3, hi3⟩ := hp
      have hl3 := hk3.same _ _ (by omega) hl2 rfl
      have hr := run_endRound (P := P) none hl3
      refine ⟨_, _, hr, rfl, ⟨hI.putObj _ hi3 (by omega) hl3 rfl, ?_, (World.putObj_heap_other (by omega)).trans (hk3.same _ _ (Nat.le_refl _) hk2 rfl)⟩, (hVb.trans hkp3).trans (below_putObj _ _ _ (by omega))⟩
      rw [World.putObj_heap_same (Array.getElem?_eq_some_iff.1 hl3).1, hrec]; rfl
    | _ => exact hp.elim
  · rintro e W2 ⟨⟨v, rfl⟩, xs, hS, hi, hl, hk⟩
    exact ⟨none, _, by have := run_endLoop (P := P) hl (by rw [hrec]; simp); rw [hrec] at this; exact this, hdone _ xs _ (Nat.le_refl _) hS (hI.putObj _ hi (by omega) hl rfl) ((World.putObj_heap_other (by omega)).trans hk)⟩

end Go.Proofs.YthdjinicmnhgpaaGreat


/-
All relations of a catalog, handed out one after the other: the program's All; the laws' Back.
-/
namespace Go.Proofs.YthdjinicmnhgpaaGreat
open Go.RowKit Go.Shelf
attribute [local go_sem] Oper.semAt_some

def encA (q : RR) : Array Value := #[.agg #[.int .u32 q.r.oid, .int .u32 q.r.ver], .agg #[.int .u32 q.r.oid, .int .u32 q.r.ver, .string q.r.nm, .int .u8 q.r.id, .slice q.a q.r.cols.length q.c]]

theorem ext_grown {w w' : World} (h : Ext w w') : w.grownBy w' none := ⟨h.os, h.tape, h.output, h.size, fun k hk _ => h.block k hk⟩

end Go.Proofs.YthdjinicmnhgpaaGreat


/-
The laws' Back of a relation.
-/
namespace Go.Proofs.YthdjinicmnhgpaaGreat
open Go.RowKit

theorem Tryz.infoRCol : (Tryz.prog.info? 101).map (fun i => (i.zero, i.size, i.bytes)) = some (some (.agg #[.string ByteArray.empty, .int .u8 0, .bool false]), 3, 24) := by kernel_rfl

def RR.rowned (N : Nat) (W : World) (q : RR) : Prop := W.ownsRow N 101 3 (.slice q.a q.r.cols.length q.c) q.r.cols.length (q.r.cols.map Col.cells).flatten
theorem RR.rowned.in {N : Nat} {W : World} {q : RR} (h : q.rowned N W) : q.in W := Sl.of_owns (base := N) (e := 101) (by rw [List.length_map]; exact h) (by intro xs hxs; simp at hxs; obtain ⟨_, _, rfl⟩ := hxs; rfl)
theorem RR.rowned.at_ {N : Nat} {W : World} {q : RR} (h : q.rowned N W) {b o : Nat} (e : q.a = some ⟨b, o, none⟩) : N ≤ b ∧ b < W.heap.size := h.lt b (by rw [e]; rfl)
theorem RR.rowned.ext {N : Nat} {W W' : World} {q : RR} (h : q.rowned N W) (he : Ext W W') : q.rowned N W' := owns_ext h he
theorem RR.rowned.mono {N M : Nat} {W : World} {q : RR} (h : q.rowned N W) (hm : M ≤ N) : q.rowned M W := owns_base h hm
end Go.Proofs.YthdjinicmnhgpaaGreat
