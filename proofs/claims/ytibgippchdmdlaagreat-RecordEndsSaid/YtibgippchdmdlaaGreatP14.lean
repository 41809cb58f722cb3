import Derived.RangeFuncNested
import Derived.RangeFuncBound
import Derived.RangeFuncCalls
import Derived.RangeFuncLeaves
import Derived.RangeFuncBox
import Derived.Shelf.Abstract
import Derived.Shelf.RegionOpen
import Derived.OwnWalkIn
import Derived.TacticsInMore
import Derived.LoopNIn
import Derived.LoopIn
import Derived.RangeFuncOne
import Derived.Test.YtibgippchdmdlaaGreatP13

/-
The youngest relation of an oid: the program's Last, over slices.Backward.
-/
namespace Go.Proofs.YtibgippchdmdlaaGreat
open Go.RowKit Go.Shelf
attribute [local go_sem] Oper.semAt_some

abbrev IX (n : Nat) := { i : Nat // i < n }
/-- The last k places, from the last one on. -/
def backUp (n : Nat) : Nat → List (IX n)
  | 0 => []
  | k + 1 => if h : k < n then backUp n k ++ [⟨n - 1 - k, by omega⟩] else backUp n k
theorem backUp_succ {n k : Nat} (h : k < n) : backUp n (k + 1) = backUp n k ++ [⟨n - 1 - k, by omega⟩] := by
  conv => lhs; unfold backUp
  rw [dif_pos h]
theorem backUp_len {n : Nat} : ∀ k, (backUp n k).length ≤ k
  | 0 => Nat.le_refl _
  | k + 1 => by
    have := backUp_len (n := n) k
    unfold backUp
    split
    · rw [List.length_append, List.length_singleton]; omega
    · omega
theorem backUp_mem {n : Nat} : ∀ k, k ≤ n → ∀ x : IX n, x ∈ backUp n k ↔ n - k ≤ x.1
  | 0, _, x => by have := x.2; simp [backUp]; omega
  | k + 1, hk, x => by
    have ih := backUp_mem k (by omega) x
    have hx := x.2
    rw [backUp_succ (by omega), List.mem_append, ih, List.mem_singleton]
    constructor
    · rintro (h | h)
      · omega
      · have := congrArg Subtype.val h; simp only at this; omega
    · intro h
      by_cases e : x.1 = n - 1 - k
      · right; exact Subtype.ext e
      · left; omega
def encB (ps : List RR) (x : IX ps.length) : Array Value := #[.int .i64 (x.1 : Int), .agg #[.int .u32 (ps[x.1]'x.2).r.oid, .int .u32 (ps[x.1]'x.2).r.ver, .string (ps[x.1]'x.2).r.nm, .int .u8 (ps[x.1]'x.2).r.id, .slice (ps[x.1]'x.2).a (ps[x.1]'x.2).r.cols.length (ps[x.1]'x.2).c]]

/-- The youngest one, from the back. -/
theorem lastUp_from {o : Int} {ps : List RR} {i : Nat} (h : ∀ j (hj : j < ps.length), i < j → ps[j].r.oid ≠ o) : ∀ k, k + i + 1 = ps.length → lastUp o ps ps.length = lastUp o ps (i + 1) := by
  have : ∀ m, i + 1 + m ≤ ps.length → lastUp o ps (i + 1 + m) = lastUp o ps (i + 1) := by
    intro m
    induction m with
    | zero => intro _; rfl
    | succ m ih =>
      intro hm
      rw [show i + 1 + (m + 1) = (i + 1 + m) + 1 by omega, lastUp_miss (by omega) (h _ (by omega) (by omega))]
      exact ih (by omega)
  intro k hk
  have h2 := this k (by omega)
  rw [show i + 1 + k = ps.length by omega] at h2
  exact h2
theorem lastUp_none {o : Int} {ps : List RR} (h : ∀ j (hj : j < ps.length), ps[j].r.oid ≠ o) : ∀ k, lastUp o ps k = none
  | 0 => rfl
  | k + 1 => by
    unfold lastUp
    rw [dif_neg (fun q => h k q.1 q.2)]
    exact lastUp_none h k

theorem owns_kept {A B : World} {row : Option Nat} {base n size : Nat} {e : TypeId} {v : Value} {xs : List Value} (h : A.ownsRow base e size v n xs) (hg : A.grownBy B row) (hr : ∀ r, row = some r → ∃ o : Obj, A.heap[r]? = some o ∧ o.isCells = false) : B.ownsRow base e size v n xs := by
  refine owns_kp h (Kp.of_grown hg) (fun b hb e => ?_)
  obtain ⟨o, ho, hn⟩ := hr b e
  rcases h.2 with ⟨rfl, _⟩ | ⟨g, cap, cur, rfl, hbg, hh, _⟩
  · simp [Value.ownBlock] at hb
  · simp [Value.ownBlock] at hb; subst hb
    rw [hh] at ho; cases ho; simp [Obj.isCells] at hn

/-- What Last leaves in its two results' cells. -/
structure LastAt (N : Nat) (w W : World) (q : RR) : Prop where
  c0 : W.cell? ⟨w.heap.size + 1, 0, none⟩ = some (.int .u32 q.r.oid)
  c1 : W.cell? ⟨w.heap.size + 1, 1, none⟩ = some (.int .u32 q.r.ver)
  c2 : W.cell? ⟨w.heap.size + 1, 2, none⟩ = some (.string q.r.nm)
  c3 : W.cell? ⟨w.heap.size + 1, 3, none⟩ = some (.int .u8 q.r.id)
  c4 : W.cell? ⟨w.heap.size + 1, 4, none⟩ = some (.slice q.a q.r.cols.length q.c)
  b : W.cell? ⟨w.heap.size + 1 + 1, 0, none⟩ = some (.bool true)
  own : q.owned N W
theorem LastAt.kept {N : Nat} {w A B : World} {q : RR} {row : Option Nat} (h : LastAt N w A q) (hg : A.grownBy B row) (hr : ∀ r, row = some r → ∃ o : Obj, A.heap[r]? = some o ∧ o.isCells = false) : LastAt N w B q :=
  ⟨cell_kept h.c0 hg hr, cell_kept h.c1 hg hr, cell_kept h.c2 hg hr, cell_kept h.c3 hg hr, cell_kept h.c4 hg hr, cell_kept h.b hg hr, owns_kept h.own hg hr⟩

end Go.Proofs.YtibgippchdmdlaaGreat

/-
A range over an iterator that hands out what it has laid down itself: the iterator's word tells of each thing handed out what the memory holds then; a loop whose body always goes on.
-/
namespace Go.Proofs.YtibgippchdmdlaaGreat
open Go.RowKit

variable {F : Fence} {n : Nat} {P : Program}

/-- The iterator's word: what is handed out meets C in the memory as it is then. -/
def SeqTold {α : Type} (F : Fence) (n : Nat) (P : Program) (g : Nat) (lb : Array Value) (encs : α → Array Value) (C : α → World → Prop) (S : List α → Prop) (N B0 : Nat) (w : World) : Prop :=
  ∀ (l : Nat) (J : List α → World → Prop) (W : World), Below w.heap.size w W → AbidesFrom W.heap.size J →
    (∀ pre x W1, J pre W1 → pre.length < N → C x W1 → YieldAt F (n - 1) P l (encs x) W1 fun e W' => e = .returned (.bool true) ∧ J (pre ++ [x]) W' ∧ Below B0 W1 W') →
    J [] W →
    CallsIn F n P g (#[.func (.yield l) #[] #[]] ++ lb) W fun e W' => (∃ v, e = .returned v) ∧ ∃ xs, S xs ∧ J xs W'

/-- How a body that always goes on is left. -/
def goesOn {α : Type} (B B0 : Nat) (I : List α → World → Prop) (xs : List α) (W : World) : Exit → Act → World → Prop
  | .normal, _, W' => KeepsFrom B W W' ∧ Below B0 W W' ∧ I xs W'
  | _, _, _ => False

theorem below_putObj {B0 : Nat} (W : World) (l : Nat) (o' : Obj) (h : B0 ≤ l) : Below B0 W (W.putObj l o') :=
  have hg := grownBy_putObj' W l o'
  ⟨hg.os, hg.tape, hg.output, hg.size, fun k hk => by
    rcases Nat.lt_or_ge k W.heap.size with h1 | h1
    · exact hg.block k h1 (fun e => by cases e; omega)
    · exact World.putObj_heap_other (by omega)⟩

theorem wpIn_range_told {α : Type} {g : Operand} {ps : Array Tmp} {assign body : Code} {Q : Exit → Act → World → Prop} {a : Act} {w : World}
    (hro : F.round = none) (h1 : 1 ≤ n) {gf : Nat} {lb : Array Value} (hg : a.eval g = .func (.func gf) #[] lb) (hFg : F.fn gf) (eg : ∀ args w, (callFunc gf args).run P w = .ok (.enter gf args) w)
    {encs : α → Array Value} {C : α → World → Prop} {S : List α → Prop} {N B0 : Nat} {w0 : World} (hseq : SeqTold F (n - 1) P gf lb encs C S N B0 w0) (hB0 : B0 ≤ w.heap.size) (hb0 : Below w0.heap.size w0 w) (hps : ∀ x, (encs x).size = ps.size)
    (I : List α → World → Prop) (hI : OwnFrom w.heap.size I) (h0 : I [] w) (Ax : α → Act → World → Prop)
    (hAx : ∀ x a' W l o', Ax x a' W → w.heap.size ≤ l → (∃ o, W.heap[l]? = some o ∧ o.isCells = false) → Ax x a' (W.putObj l o'))
    (hassign : ∀ (l : Nat) (pre : List α) (x : α) (W : World) (K : Act → World → Prop), I pre W → C x W → (∀ a' W', KeepsFrom w.heap.size W W' → Below B0 W W' → I pre W' → Ax x a' W' → K a' W') →
      assign.wpIn (F.inRound l) (n - 1 - 1) P (Exit.then K (fun _ _ _ => False)) { tmps := (ps.zip (encs x)).foldl (fun t (p, v) => t.setIfInBounds p v) a.tmps, defers := [] } W)
    (hbody : ∀ (l : Nat) (pre : List α) (x : α) (a' : Act) (W : World), I pre W → pre.length < N → Ax x a' W → body.wpIn (F.inRound l) (n - 1 - 1) P (goesOn w.heap.size B0 I (pre ++ [x]) W) a' W)
    (hdone : ∀ (D : Nat) (xs : List α) (W : World), w.heap.size ≤ D → S xs → I xs W → W.heap[D]? = some (.deferred (some [])) → Q .normal { a with defers := { target := .collected D, args := #[] } :: a.defers } W) :
    (Code.rangeFunc g ps assign body).wpIn F n P Q a w := by
  refine wpIn_rangeFunc ?_
  intro fn hfn
  rw [hro]
  have hw0 : w0.heap.size ≤ w.heap.size := hb0.size
  obtain ⟨rec, hrec⟩ : ∃ rec : LoopState → Option Code → Loop, rec = fun st pe => { state := st, pending := pe, fn, tmps := a.tmps, params := ps, assign, body, defers := w.heap.size } := ⟨_, rfl⟩
  obtain ⟨W1, hW1⟩ : ∃ W1, (w.alloc (.deferred (some []))).alloc (.loop (rec .ready none)) = W1 := ⟨_, rfl⟩
  have hs1 : W1.heap.size = w.heap.size + 2 := by rw [← hW1]; simp
  have hL1 : W1.heap[w.heap.size + 1]? = some (.loop (rec .ready none)) := by
    rw [← hW1]; have := World.alloc_heap_new (w.alloc (.deferred (some []))) (.loop (rec .ready none)); rwa [World.size_alloc] at this
  have hK1 : W1.heap[w.heap.size]? = some (.deferred (some [])) := by
    rw [← hW1]; exact (Below.heap_alloc _ _ _ (by simp)).trans (World.alloc_heap_new w _)
  refine ⟨w.heap.size + 1, [{ target := .collected w.heap.size, args := #[] }], W1, { target := .fn (.func gf) lb, args := #[.func (.yield (w.heap.size + 1)) #[] #[]] }, W1, gf,
    #[.func (.yield (w.heap.size + 1)) #[] #[]] ++ lb, W1, ?_, ?_, ?_, ?_, fun _ => h1, ?_⟩
  · rw [← hW1, hrec]; exact run_enterLoop_outer _ _ _ _ _
  · simp only [resolve, hg]
    simp [go_sem]
  · intro f' hf'; simp [Target.leads] at hf'; subst hf'; exact hFg
  · simp [invoke, go_sem, eg]
  refine (hseq (w.heap.size + 1) (fun pre W => I pre W ∧ W.heap[w.heap.size + 1]? = some (.loop (rec .ready none)) ∧ W.heap[w.heap.size]? = some (.deferred (some []))) W1
    (by rw [← hW1]; exact hb0.trans ((((Below.refl _ w).alloc (Nat.le_refl _) _).alloc (by simp) _).mono hw0))
    (fun s A B row hs hg' hr => ⟨hI s A B row hs.1 hg' (fun r e => by obtain ⟨q1, o, q2, q3⟩ := hr r e; exact ⟨by omega, o, q2, Obj.not_cells_of_walk q3⟩), (grownBy_keeps hg' (fun r e => (hr r e).2) hs.2.1 rfl).trans hs.2.1, (grownBy_keeps hg' (fun r e => (hr r e).2) hs.2.2 rfl).trans hs.2.2⟩)
    ?_ ⟨by rw [← hW1]; exact hI.alloc _ (hI.alloc _ h0), hL1, hK1⟩).mono ?_
  · rintro pre x W ⟨hi, hl, hk⟩ hlen hc
    have hlt : w.heap.size + 1 < W.heap.size := (Array.getElem?_eq_some_iff.1 hl).1
    have hy := run_yield (P := P) (args := encs x) hl (by rw [hrec]; exact hps x)
    rw [hrec] at hy
    refine ⟨fn, _, assign, body, hy, roundIn_of_wpIn hfn (hassign _ pre x W _ hi hc (fun a' W' hkp hbl hi' hax => ?_))⟩
    have hl' : W'.heap[w.heap.size + 1]? = some (.loop (rec .ready none)) := hkp.same _ _ (by omega) hl rfl
    have hk' : W'.heap[w.heap.size]? = some (.deferred (some [])) := hkp.same _ _ (Nat.le_refl _) hk rfl
    have hlt' : w.heap.size + 1 < W'.heap.size := (Array.getElem?_eq_some_iff.1 hl').1
    refine ⟨_, run_beginRound hl' (by rw [hrec]), ?_⟩
    obtain ⟨V, hV⟩ : ∃ V, V = W'.putObj (w.heap.size + 1) (.loop { rec .ready none with state := .busy }) := ⟨_, rfl⟩
    have hl2 : V.heap[w.heap.size + 1]? = some (.loop { rec .ready none with state := .busy }) := by rw [hV]; exact World.putObj_heap_same hlt'
    have hk2 : V.heap[w.heap.size]? = some (.deferred (some [])) := by rw [hV]; exact (World.putObj_heap_other (by omega)).trans hk'
    have hVb : Below B0 W V := by rw [hV]; exact hbl.trans (below_putObj _ _ _ (by omega))
    have hVI : I pre V := by rw [hV]; exact hI.putObj _ hi' (by omega) hl' rfl
    have hVA : Ax x a' V := by rw [hV]; exact hAx x a' W' _ _ hax (by omega) ⟨_, hl', rfl⟩
    rw [← hV]
    refine wpIn_mono (hbody _ pre x a' V hVI hlen hVA) ?_
    rintro e a3 W3 hp
    cases e with
    | normal =>
      obtain ⟨hk3, hkp3, hi3⟩ := hp
      have hl3 := hk3.same _ _ (by omega) hl2 rfl
      have hr := run_endRound (P := P) none hl3
      refine ⟨_, _, hr, rfl, ⟨hI.putObj _ hi3 (by omega) hl3 rfl, ?_, (World.putObj_heap_other (by omega)).trans (hk3.same _ _ (Nat.le_refl _) hk2 rfl)⟩, (hVb.trans hkp3).trans (below_putObj _ _ _ (by omega))⟩
      rw [World.putObj_heap_same (Array.getElem?_eq_some_iff.1 hl3).1, hrec]; rfl
    | _ => exact hp.elim
  · rintro e W2 ⟨⟨v, rfl⟩, xs, hS, hi, hl, hk⟩
    exact ⟨none, _, by have := run_endLoop (P := P) hl (by rw [hrec]; simp); rw [hrec] at this; exact this, hdone _ xs _ (Nat.le_refl _) hS (hI.putObj _ hi (by omega) hl rfl) ((World.putObj_heap_other (by omega)).trans hk)⟩

end Go.Proofs.YtibgippchdmdlaaGreat


/-
All relations of a catalog, handed out one after the other: the program's All; the laws' Back.
-/
namespace Go.Proofs.YtibgippchdmdlaaGreat
open Go.RowKit Go.Shelf
attribute [local go_sem] Oper.semAt_some

def encA (q : RR) : Array Value := #[.agg #[.int .u32 q.r.oid, .int .u32 q.r.ver], .agg #[.int .u32 q.r.oid, .int .u32 q.r.ver, .string q.r.nm, .int .u8 q.r.id, .slice q.a q.r.cols.length q.c]]

theorem ext_grown {w w' : World} (h : Ext w w') : w.grownBy w' none := ⟨h.os, h.tape, h.output, h.size, fun k hk _ => h.block k hk⟩

end Go.Proofs.YtibgippchdmdlaaGreat


/-
The laws' Back of a relation.
-/
namespace Go.Proofs.YtibgippchdmdlaaGreat
open Go.RowKit

theorem Tryz.infoRCol : (Tryz.prog.info? 171).map (fun i => (i.zero, i.size, i.bytes)) = some (some (.agg #[.string ByteArray.empty, .int .u8 0, .bool false]), 3, 24) := by kernel_rfl

def RR.rowned (N : Nat) (W : World) (q : RR) : Prop := W.ownsRow N 171 3 (.slice q.a q.r.cols.length q.c) q.r.cols.length (q.r.cols.map Col.cells).flatten
theorem RR.rowned.in {N : Nat} {W : World} {q : RR} (h : q.rowned N W) : q.in W := Sl.of_owns (base := N) (e := 171) (by rw [List.length_map]; exact h) (by intro xs hxs; simp at hxs; obtain ⟨_, _, rfl⟩ := hxs; rfl)
theorem RR.rowned.at_ {N : Nat} {W : World} {q : RR} (h : q.rowned N W) {b o : Nat} (e : q.a = some ⟨b, o, none⟩) : N ≤ b ∧ b < W.heap.size := h.lt b (by rw [e]; rfl)
theorem RR.rowned.ext {N : Nat} {W W' : World} {q : RR} (h : q.rowned N W) (he : Ext W W') : q.rowned N W' := owns_ext h he
theorem RR.rowned.mono {N M : Nat} {W : World} {q : RR} (h : q.rowned N W) (hm : M ≤ N) : q.rowned M W := owns_base h hm
end Go.Proofs.YtibgippchdmdlaaGreat


/-
All relations of a catalog, as the document's: the laws' Back.
-/
namespace Go.Proofs.YtibgippchdmdlaaGreat
open Go.RowKit Go.Shelf
attribute [local go_sem] Oper.semAt_some

theorem run_equalIn_func_nil {P : Program} (w : World) (d : Nat) (t : TypeId) (f : Fn) (xs ys : Array Value) {p : Array TypeId} {r : Array TypeId} {v : Bool} (h : P.underlying t = some (.func p r v)) : (Op.equalIn (d + 1) t (.func f xs ys) .nilFunc).run P w = .ok false w := by
  simp [Op.equalIn, run_underlying h]
@[go_sem] theorem run_eql_func_nil {P : Program} (w : World) (t : TypeId) (f : Fn) (xs ys : Array Value) {p : Array TypeId} {r : Array TypeId} {v : Bool} (h : P.underlying t = some (.func p r v)) : (binOp .eql t (.func f xs ys) .nilFunc).run P w = .ok (.bool false) w := by
  have e : (Op.equal t (.func f xs ys) .nilFunc).run P w = .ok false w := by
    exact run_equalIn_func_nil w 9999 t f xs ys h
  simp [binOp, e]

theorem stepIn_append {F : Fence} {n : Nat} {P : Program} {ops : Array Oper} {o : Oper} {a : Act} {w : World} {K : Act → World → Prop} {Q : Exit → Act → World → Prop} {E : Prop} (hg : o.guard = none) (s x : Operand) (t : TypeId) (hop : o.op = Op.call { callee := Callee.builtin Builtin.append, args := #[s, x], argTypes := #[t, t] })
    (v u : Value) (hs : a.eval s = v) (hx : a.eval x = u) {v' : Value} {w' : World} (hrun : (Builtin.append_ #[t, t] o.type #[v, u]).run P w = .ok v' w') (hK : K (a.put o.dst v') w') : if Region.wanted o (yielded ops a.tmps) = true then Oper.wpIn F n P o a w K Q else E := by
  rw [if_pos (by simp [Region.wanted, hg])]
  unfold Oper.wpIn
  refine ⟨?_, ?_⟩
  · simp [Oper.about, hop, resolve, Target.leads, Sem.run_pure]
  · rw [Oper.semAt_plain F _ _ (by rw [hop]; intro c hc'; cases hc')]
    simp [execOp, hop, resolve, invoke, builtin, hs, hx, hrun, Result.andThen]
    exact hK

/-- Relations of the document of the call's own, in a row of its own. -/
structure BkR (W : World) (N : Nat) (rs : List Rl) (v : Value) (qs : List RR) : Prop where
  own : W.ownsRow N 101 5 v qs.length (qs.map RR.cells).flatten
  r : qs.map RR.r = rs
  sl : ∀ q ∈ qs, q.rowned N W
  ne : ∀ q ∈ qs, ∀ b o, q.a = some ⟨b, o, none⟩ → v.ownBlock ≠ some b
theorem BkR.nil (W : World) (N : Nat) : BkR W N [] (.slice none 0 0) [] := ⟨World.ownsRow_nil _ _ _ _, rfl, (fun q h => by cases h), (fun q h => by cases h)⟩
theorem BkR.ext {W W' : World} {N : Nat} {rs : List Rl} {qs : List RR} {v : Value} (h : BkR W N rs v qs) (he : Ext W W') : BkR W' N rs v qs := ⟨owns_ext h.own he, h.r, fun q hq => (h.sl q hq).ext he, h.ne⟩
theorem rowned_kp {S : Nat → Prop} {W W' : World} {N : Nat} {x : RR} (h2 : x.rowned N W) (hk1 : Kp S W W') (h3 : ∀ b o, x.a = some ⟨b, o, none⟩ → ¬ S b) : x.rowned N W' := by
  refine owns_kp h2 hk1 (fun b hb => ?_)
  obtain ⟨xr, xa, xc⟩ := x
  cases xa with
  | none => cases hb
  | some ad =>
    obtain ⟨b', o', sp⟩ := ad
    have hb' : b' = b := by simpa [Value.ownBlock] using hb
    subst hb'
    rcases h2.2 with ⟨hv, -⟩ | ⟨g, cap, cur, hv, -⟩
    · cases hv
    · simp only [Value.slice.injEq, Option.some.injEq, Addr.mk.injEq] at hv
      obtain ⟨⟨rfl, rfl, rfl⟩, -⟩ := hv
      exact h3 _ _ rfl
theorem BkR.kept {W W' : World} {N : Nat} {rs : List Rl} {qs : List RR} {v : Value} {row : Option Nat} (h : BkR W N rs v qs) (hg : W.grownBy W' row) (hr : ∀ r, row = some r → ∃ o : Obj, W.heap[r]? = some o ∧ o.isCells = false) : BkR W' N rs v qs :=
  ⟨owns_kept h.own hg hr, h.r, fun q hq => owns_kept (h.sl q hq) hg hr, h.ne⟩
theorem BkR.set {W : World} {N : Nat} {rs : List Rl} {qs : List RR} {v : Value} (h : BkR W N rs v qs) {p : Addr} (hp : p.block < N) (u : Value) : BkR (W.setCell p u) N rs v qs := ⟨owns_set h.own hp u, h.r, fun q hq => owns_set (h.sl q hq) hp u, h.ne⟩
theorem BkR.push {W W' : World} {N : Nat} {rs : List Rl} {qs : List RR} {v v' : Value} {q : RR} (h : BkR W N rs v qs) (hs : q.rowned N W) (hn : ∀ b o, q.a = some ⟨b, o, none⟩ → v.ownBlock ≠ some b)
    (hg : W.grownBy W' v.ownBlock) (hat : v'.ownBlock = v.ownBlock ∨ v'.ownBlock = some W.heap.size) (ho : W'.ownsRow N 101 5 v' (qs.length + 1) ((qs.map RR.cells).flatten ++ q.cells)) : BkR W' N (rs ++ [q.r]) v' (qs ++ [q]) := by
  have hall : ∀ x ∈ qs ++ [q], x.rowned N W ∧ ∀ b o, x.a = some ⟨b, o, none⟩ → v.ownBlock ≠ some b := fun x hx => by
    rcases List.mem_append.1 hx with hx | hx
    · exact ⟨h.sl x hx, h.ne x hx⟩
    · obtain rfl : x = q := by simpa using hx
      exact ⟨hs, hn⟩
  refine ⟨by simpa using ho, by rw [List.map_append, h.r]; rfl, fun x hx => rowned_kp (hall x hx).1 (Kp.of_grown hg) (hall x hx).2, fun x hx b o e => ?_⟩
  obtain ⟨h2, h3⟩ := hall x hx
  rcases hat with h4 | h4
  · rw [h4]; exact h3 b o e
  · rw [h4]; intro h5; injection h5 with h5
    have := (h2.at_ e).2; omega
theorem BkR.rl {W : World} {N : Nat} {rs : List Rl} {qs : List RR} {v : Value} (h : BkR W N rs v qs) : RL W v qs := ⟨Sl.of_owns (base := N) (e := 101) (by rw [List.length_map]; exact h.own) (RR.len qs), fun q hq => (h.sl q hq).in⟩

end Go.Proofs.YtibgippchdmdlaaGreat


/-
The awake of the laws of catalogs.
-/
namespace Go.Proofs.YtibgippchdmdlaaGreat
open Go.RowKit

def aw9 (v : Int) : Rl := ⟨3, v, ⟨#[116]⟩, 0, [⟨⟨#[97]⟩, 1, false⟩]⟩
theorem aw9_r1 : (aw9 1).right = 0 := by decide
theorem aw9_r2 : (aw9 2).right = 0 := by decide
theorem aw9_up : ofUp [aw9 2, aw9 1] 2 = [aw9 1, aw9 2] := by rfl
theorem aw9_ofE : ofE [aw9 2, aw9 1] = 0 := by decide
theorem aw9_ofPl : ofPl [aw9 2, aw9 1] = 2 := by decide

theorem aw9_wb (v : Int) : (aw9 v).wb := ⟨by show 1 ≤ 9223372036854775807; omega, by intro c hc; simp [aw9] at hc; subst hc; show 1 ≤ 9223372036854775807; omega, by show 1 ≤ 5864062014634; omega, Int.le_refl 0⟩
theorem two_of {qs : List RR} {a b : Rl} (h : qs.map RR.r = [a, b]) : ∃ x y, qs = [x, y] ∧ x.r = a ∧ y.r = b := by
  match qs, h with
  | [x, y], h =>
    simp only [List.map_cons, List.map_nil, List.cons.injEq, and_true] at h
    exact ⟨x, y, rfl, h.1, h.2⟩

end Go.Proofs.YtibgippchdmdlaaGreat


/-
Whether two lists of relations are the same: the reference's, the program's.
-/
namespace Go.Proofs.YtibgippchdmdlaaGreat
open Go.RowKit

theorem rls_ext {a b : List RR} (h0 : a.length = b.length) (h : ∀ i (h1 : i < a.length) (h2 : i < b.length), a[i].r = b[i].r) : a.map RR.r = b.map RR.r :=
  List.ext_getElem (by simpa using h0) (fun i h1 h2 => by rw [List.getElem_map, List.getElem_map]; exact h i (by simpa using h1) (by simpa using h2))

end Go.Proofs.YtibgippchdmdlaaGreat


/-
The walk of CatalogOrder.
-/
namespace Go.Proofs.YtibgippchdmdlaaGreat
open Go.RowKit

theorem mem_r {ps qs : List RR} (h : qs.map RR.r = ps.map RR.r) {q : RR} (hq : q ∈ qs) : ∃ p ∈ ps, p.r = q.r := by
  have : q.r ∈ ps.map RR.r := by rw [← h]; exact List.mem_map_of_mem hq
  obtain ⟨p, hp, e⟩ := List.mem_map.1 this
  exact ⟨p, hp, e⟩
theorem up_n16 {l : List Rl} {k : Nat} {qs : List RR} (h : qs.map RR.r = ofUp l k) : qs.length ≤ 64 ∧ ∀ q ∈ qs, q.r.cols.length ≤ 16 := by
  refine ⟨?_, fun q hq => Rl.cols_le ((ofUp_ok l k).right _ (by rw [← h]; exact List.mem_map_of_mem hq))⟩
  have := (ofUp_ok l k).n64
  rw [← h, List.length_map] at this
  exact this
/-- The laws' Own and Of, one behind the other. -/
theorem own_of {ps : List RR} {W W1 : World} {v : Value} {qs : List RR} (ho : OwnR W1 W.heap.size ps ps.length v qs) (hb : ∀ p ∈ ps, p.r.wb) : RL W1 v qs ∧ (∀ q ∈ qs, q.r.cols.length ≤ q.c) ∧ (∀ q ∈ qs, q.r.wb) ∧ qs.map RR.r = ps.map RR.r ∧ qs.length = ps.length :=
  ⟨ho.rl, ho.cap, ho.wb hb, ho.rs, ho.len⟩

end Go.Proofs.YtibgippchdmdlaaGreat


/-
The walk of CatalogKeeps.
-/
namespace Go.Proofs.YtibgippchdmdlaaGreat
open Go.RowKit

theorem upP_16k (ps : List RR) : (upP ps ps.length).length ≤ 64 ∧ ∀ q ∈ upP ps ps.length, q.r.cols.length ≤ 16 :=
  up_n16 (l := ps.map RR.r) (k := ps.length) (upP_r _ _)
theorem cget_is {N g : Nat} {c : Value} {ps : List RR} {o v : Int} {w : World} (hc : Ca w N g c ps) {x : Rl} (h : getR o v (ps.map RR.r) = some x) :
    Calls Tryz.prog 44 #[.pointer (some ⟨g, 0, none⟩), .agg #[.int .u32 o, .int .u32 v]] w fun e w' => ∃ q : RR, e = .returned (.tuple #[.agg #[.int .u32 x.oid, .int .u32 x.ver, .string x.nm, .int .u8 x.id, .slice q.a x.cols.length q.c], .bool true]) ∧ q.r = x ∧ q.owned w.heap.size w' ∧ Ext w w' := by
  refine (cget_any N g c ps o v w hc).mono fun e w' hq => ?_
  obtain ⟨q, h1, h2, h3, h4⟩ := hq
  have hh : hasR o v (ps.map RR.r) = true := by
    cases e2 : hasR o v (ps.map RR.r) with
    | true => rfl
    | false => rw [getR_none.2 e2] at h; cases h
  have hg : (getP o v ps).map RR.r = some x := (getP_map o v ps).trans h
  obtain ⟨p, hp, hpx⟩ := Option.map_eq_some_iff.1 hg
  rw [hp, Option.getD_some, hpx] at h2
  refine ⟨q, ?_, h2, h3, h4⟩
  rw [h1, hh]
  unfold RR.agg
  rw [h2]
theorem own8_is (p : RR) (x : Rl) (hx : p.r = x) (w : World) (hp : p.in w) (hn : x.cols.length ≤ 5864062014634) :
    Calls Tryz.prog 88 #[.agg #[.int .u32 x.oid, .int .u32 x.ver, .string x.nm, .int .u8 x.id, .slice p.a x.cols.length p.c]] w fun e w' => ∃ a' c', e = .returned (.agg #[.int .u32 x.oid, .int .u32 x.ver, .string x.nm, .int .u8 x.id, .slice a' x.cols.length c']) ∧ x.cols.length ≤ c' ∧ RR.in w' ⟨x, a', c'⟩ ∧ Ext w w' := by
  subst hx
  refine (own9_one p w hp hn).mono fun e w' hq => ?_
  obtain ⟨⟨r', a', c'⟩, h1, h2, h3, h4, h5⟩ := hq
  simp only at h2
  subst h2
  exact ⟨a', c', h1, h3, h4.in, h5⟩
end Go.Proofs.YtibgippchdmdlaaGreat

/-
What is wrong with an event: the program's rowed, own, truncate, Right.
-/
namespace Go.Proofs.YtibgippchdmdlaaGreat
open Go.RowKit

def rowedB (k : Int) : Bool := decide (4 ≤ k ∧ k ≤ 6)
/-- An event that has nothing but what is its kind's. -/
def Ev.only (e : Ev) : Ev := if rowedB e.kind = true then ⟨e.kind, e.ao, e.av, e.old, e.b, e.a, [], 0⟩ else ⟨e.kind, 0, 0, 0, [], [], e.rs, e.fl⟩
noncomputable def ownB (e : Ev) : Bool := evB e e.only
noncomputable def risB (l : List Rf) : Bool := @decide (∀ i (h : i + 1 < l.length), aheadB l[i].o l[i].v l[i + 1].o l[i + 1].v = true) (Classical.propDecidable _)
theorem risB_true {l : List Rf} : risB l = true ↔ ∀ i (h : i + 1 < l.length), aheadB l[i].o l[i].v l[i + 1].o l[i + 1].v = true := by unfold risB; simp
theorem risB_no {l : List Rf} {i : Nat} (h : i + 1 < l.length) (hn : aheadB l[i].o l[i].v l[i + 1].o l[i + 1].v = false) : risB l = false := by
  cases hr : risB l with
  | false => rfl
  | true => rw [risB_true.1 hr i h] at hn; cases hn
def hasAll (rs : List Rf) (l : List Rl) : Bool := rs.all (fun x => hasR x.o x.v l)
theorem hasAll_no {rs : List Rf} {l : List Rl} {k : Nat} (hk : k < rs.length) (h : hasR rs[k].o rs[k].v l = false) : hasAll rs l = false := by
  unfold hasAll
  rw [List.all_eq_false]
  exact ⟨_, List.getElem_mem hk, by rw [h]; simp⟩
theorem hasAll_yes {rs : List Rf} {l : List Rl} (h : ∀ k (hk : k < rs.length), hasR rs[k].o rs[k].v l = true) : hasAll rs l = true := by
  unfold hasAll
  rw [List.all_eq_true]
  intro x hx
  obtain ⟨k, hk, rfl⟩ := List.getElem_of_mem hx
  exact h k hk
noncomputable def truncE (e : Ev) (l : List Rl) : Int := if e.rs.length < 1 ∨ 8 < e.rs.length then 17 else if risB e.rs = false then 15 else if hasAll e.rs l = false then 10 else if 3 < e.fl then 4 else 0
noncomputable def evE (e : Ev) (l : List Rl) : Int :=
  if e.kind < 4 ∨ 7 < e.kind then 7 else if ownB e = false then 3 else if e.kind = 7 then truncE e l else match getR e.ao e.av l with
    | none => 10
    | some r => imgE r e.kind e.old e.b e.a

set_option maxRecDepth 100000 in set_option maxHeartbeats 1600000 in
theorem rowed_any (x : EL) (w : World) : Calls Tryz.prog 56 #[x.agg] w fun e w' => e = .returned (.bool (rowedB x.e.kind)) ∧ Ext w w' := by
  obtain ⟨⟨k1, ao1, av1, old1, b1, a1, r1, fl1⟩, ba1, bc1, aa1, ac1, ra1, rc1⟩ := x
  unfold EL.agg
  simp only
  by_cases h4 : 4 ≤ k1
  · by_cases h6 : k1 ≤ 6
    · have HR := Hid.mk' (show rowedB k1 = true from decide_eq_true ⟨h4, h6⟩)
      go_enter Tryz.func56, Tryz.ntmps56
      go_wp2
      go_ret
      exact ⟨ret_bool HR.out.symm, by (repeat (with_reducible (first | exact Ext.refl _ | assumption | exact held_left (by assumption) | apply Ext.drewN | apply Ext.drew | apply Ext.alloc | (refine Ext.setCell ?_ (by first | (simp; done) | (simp; omega) | omega) _) | (refine Ext.trans ?_ (by assumption)) | (refine Ext.trans ?_ (held_left (by assumption))))))⟩
    · have HR := Hid.mk' (show rowedB k1 = false from decide_eq_false (fun h => h6 h.2))
      go_enter Tryz.func56, Tryz.ntmps56
      go_wp2
      go_ret
      exact ⟨ret_bool HR.out.symm, by (repeat (with_reducible (first | exact Ext.refl _ | assumption | exact held_left (by assumption) | apply Ext.drewN | apply Ext.drew | apply Ext.alloc | (refine Ext.setCell ?_ (by first | (simp; done) | (simp; omega) | omega) _) | (refine Ext.trans ?_ (by assumption)) | (refine Ext.trans ?_ (held_left (by assumption))))))⟩
  · have HR := Hid.mk' (show rowedB k1 = false from decide_eq_false (fun h => h4 h.1))
    go_enter Tryz.func56, Tryz.ntmps56
    go_wp2
    go_ret
    exact ⟨ret_bool HR.out.symm, by (repeat (with_reducible (first | exact Ext.refl _ | assumption | exact held_left (by assumption) | apply Ext.drewN | apply Ext.drew | apply Ext.alloc | (refine Ext.setCell ?_ (by first | (simp; done) | (simp; omega) | omega) _) | (refine Ext.trans ?_ (by assumption)) | (refine Ext.trans ?_ (held_left (by assumption))))))⟩

theorem nilRef (w : World) : Sl w (.slice none 0 0) 2 (([] : List Rf).map Rf.cells) := ⟨none, 0, rfl, .inl rfl⟩
theorem nilRowP (w : World) : Sl w (.slice none 0 0) 5 (([] : List K).map K.pc) := ⟨none, 0, rfl, .inl rfl⟩
set_option maxRecDepth 100000 in set_option maxHeartbeats 4000000 in
theorem pown13_any (x : EL) (w : World) (hx : x.at 5 K.pc w) (hs : x.e.small) : Calls Tryz.prog 82 #[x.agg] w fun e w' => e = .returned (.bool (ownB x.e)) ∧ Ext w w' := by
  have HRW := Hid.mk' (fun W => rowed_any x W)
  have HAK := Hid.mk' (fun y W (h : Ext w W) (h2 : y.at 5 K.pc W) (h3 : y.e.small) => ealike_any x y W (hx.ext h) h2 hs h3)
  have HX := Hid.mk' (And.intro hx hs)
  obtain ⟨⟨k1, ao1, av1, old1, b1, a1, r1, fl1⟩, ba1, bc1, aa1, ac1, ra1, rc1⟩ := x
  unfold EL.agg at HRW HAK ⊢
  simp only at HRW HAK ⊢
  clear hx hs
  cases hr : rowedB k1 with
  | true =>
    have HR := Hid.mk' (show ownB (⟨k1, ao1, av1, old1, b1, a1, r1, fl1⟩ : Ev) = evB (⟨k1, ao1, av1, old1, b1, a1, r1, fl1⟩ : Ev) ⟨k1, ao1, av1, old1, b1, a1, [], 0⟩ from by unfold ownB Ev.only; rw [if_pos hr])
    rw [hr] at HRW
    clear hr
    go_enter Tryz.func82, Tryz.ntmps82
    go_upto_region 3 with (go_at_call 56; refine (HRW.out _).mono ?_; rintro e w1 ⟨rfl, hb1⟩; have HB1 := Hid.mk' hb1; have hE_w1 : Ext ((w.alloc (.cells #[.int .u8 k1, .int .u32 ao1, .int .u32 av1, .int .u8 old1, .slice ba1 b1.length bc1, .slice aa1 a1.length ac1, .slice ra1 r1.length rc1, .int .u8 fl1] 50)).alloc (.cells #[.int .u8 k1, .int .u32 0, .int .u32 0, .int .u8 0, .slice none 0 0, .slice none 0 0, .slice none 0 0, .int .u8 0] 50)) w1 := (by (repeat (with_reducible (first | exact Ext.refl _ | assumption | exact held_left (by assumption) | apply Ext.drewN | apply Ext.drew | apply Ext.alloc | (refine Ext.setCell ?_ (by first | (simp; done) | (simp; omega) | omega) _) | (refine Ext.trans ?_ (by assumption)) | (refine Ext.trans ?_ (held_left (by assumption))))))); obtain ⟨hc_w1, hf_w1⟩ := hE_w1.cells; have hz_w1 := hE_w1.size)
    have HW1 := Hid.mk' (((Ext.refl (w.alloc (.cells #[.int .u8 k1, .int .u32 ao1, .int .u32 av1, .int .u8 old1, .slice ba1 b1.length bc1, .slice aa1 a1.length ac1, .slice ra1 r1.length rc1, .int .u8 fl1] 50))).alloc (.cells #[.int .u8 k1, .int .u32 0, .int .u32 0, .int .u8 0, .slice none 0 0, .slice none 0 0, .slice none 0 0, .int .u8 0] 50)).trans HB1.out)
    have hV : Blk w1 w.heap.size #[.int .u8 k1, .int .u32 ao1, .int .u32 av1, .int .u8 old1, .slice ba1 b1.length bc1, .slice aa1 a1.length ac1, .slice ra1 r1.length rc1, .int .u8 fl1] 50 := (((Blk.new w #[.int .u8 k1, .int .u32 ao1, .int .u32 av1, .int .u8 old1, .slice ba1 b1.length bc1, .slice aa1 a1.length ac1, .slice ra1 r1.length rc1, .int .u8 fl1] 50).alloc _).ext HB1.out)
    have hZ : Blk w1 (w.heap.size + 1) #[.int .u8 k1, .int .u32 0, .int .u32 0, .int .u8 0, .slice none 0 0, .slice none 0 0, .slice none 0 0, .int .u8 0] 50 := ((Blk.new' (w := w.alloc (.cells #[.int .u8 k1, .int .u32 ao1, .int .u32 av1, .int .u8 old1, .slice ba1 b1.length bc1, .slice aa1 a1.length ac1, .slice ra1 r1.length rc1, .int .u8 fl1] 50)) _ _ (by simp)).ext HB1.out)
    have HV := Hid.mk' hV
    have HZ := Hid.mk' hZ
    have gv := hV.cell
    have gz := hZ.cell
    have gzf := hZ.frozen
    have zv := hV.lt
    have zz := hZ.lt
    have hE1 := HW1.out
    clear hV hZ hE_w1 hc_w1 hf_w1 hz_w1
    go_region_held3 (fun w' => Ext (w.alloc (.cells #[.int .u8 k1, .int .u32 ao1, .int .u32 av1, .int .u8 old1, .slice ba1 b1.length bc1, .slice aa1 a1.length ac1, .slice ra1 r1.length rc1, .int .u8 fl1] 50)) w' ∧ (∀ b o, b < (w.alloc (.cells #[.int .u8 k1, .int .u32 ao1, .int .u32 av1, .int .u8 old1, .slice ba1 b1.length bc1, .slice aa1 a1.length ac1, .slice ra1 r1.length rc1, .int .u8 fl1] 50)).heap.size → w'.cell? ⟨b, o, none⟩ = (w.alloc (.cells #[.int .u8 k1, .int .u32 ao1, .int .u32 av1, .int .u8 old1, .slice ba1 b1.length bc1, .slice aa1 a1.length ac1, .slice ra1 r1.length rc1, .int .u8 fl1] 50)).cell? ⟨b, o, none⟩) ∧ (∀ b o, b < (w.alloc (.cells #[.int .u8 k1, .int .u32 ao1, .int .u32 av1, .int .u8 old1, .slice ba1 b1.length bc1, .slice aa1 a1.length ac1, .slice ra1 r1.length rc1, .int .u8 fl1] 50)).heap.size → w'.frozen? ⟨b, o, none⟩ = (w.alloc (.cells #[.int .u8 k1, .int .u32 ao1, .int .u32 av1, .int .u8 old1, .slice ba1 b1.length bc1, .slice aa1 a1.length ac1, .slice ra1 r1.length rc1, .int .u8 fl1] 50)).frozen? ⟨b, o, none⟩)) ((exact held_of (by (repeat (with_reducible (first | exact Ext.refl _ | assumption | exact held_left (by assumption) | apply Ext.drewN | apply Ext.drew | apply Ext.alloc | (refine Ext.setCell ?_ (by first | (simp; done) | (simp; omega) | omega) _) | (refine Ext.trans ?_ (by assumption)) | (refine Ext.trans ?_ (held_left (by assumption))))))))) (fail)
    have HZ2 := Hid.mk' (show Blk (((((w1.setCell ⟨w.heap.size + 1, 1, none⟩ (.int .u32 ao1)).setCell ⟨w.heap.size + 1, 2, none⟩ (.int .u32 av1)).setCell ⟨w.heap.size + 1, 3, none⟩ (.int .u8 old1)).setCell ⟨w.heap.size + 1, 4, none⟩ (.slice ba1 b1.length bc1)).setCell ⟨w.heap.size + 1, 5, none⟩ (.slice aa1 a1.length ac1)) (w.heap.size + 1) #[.int .u8 k1, .int .u32 ao1, .int .u32 av1, .int .u8 old1, .slice ba1 b1.length bc1, .slice aa1 a1.length ac1, .slice none 0 0, .int .u8 0] 50 from by
      have := ((((HZ.out.set 1 (.int .u32 ao1)).set 2 (.int .u32 av1)).set 3 (.int .u8 old1)).set 4 (.slice ba1 b1.length bc1)).set 5 (.slice aa1 a1.length ac1)
      simpa only [List.setIfInBounds_toArray, List.set_cons_zero, List.set_cons_succ] using this)
    have HE2 := Hid.mk' (show Ext (w.alloc (.cells #[.int .u8 k1, .int .u32 ao1, .int .u32 av1, .int .u8 old1, .slice ba1 b1.length bc1, .slice aa1 a1.length ac1, .slice ra1 r1.length rc1, .int .u8 fl1] 50)) (((((w1.setCell ⟨w.heap.size + 1, 1, none⟩ (.int .u32 ao1)).setCell ⟨w.heap.size + 1, 2, none⟩ (.int .u32 av1)).setCell ⟨w.heap.size + 1, 3, none⟩ (.int .u8 old1)).setCell ⟨w.heap.size + 1, 4, none⟩ (.slice ba1 b1.length bc1)).setCell ⟨w.heap.size + 1, 5, none⟩ (.slice aa1 a1.length ac1)) from by (repeat (with_reducible (first | exact Ext.refl _ | assumption | exact held_left (by assumption) | apply Ext.drewN | apply Ext.drew | apply Ext.alloc | (refine Ext.setCell ?_ (by first | (simp; done) | (simp; omega) | omega) _) | (refine Ext.trans ?_ (by assumption)) | (refine Ext.trans ?_ (held_left (by assumption)))))))
    have HD := Hid.mk' HZ2.out.drew
    have HE3 := Hid.mk' HE2.out.drew
    obtain ⟨w2, hw2⟩ : ∃ w2, w2 = (((((w1.setCell ⟨w.heap.size + 1, 1, none⟩ (.int .u32 ao1)).setCell ⟨w.heap.size + 1, 2, none⟩ (.int .u32 av1)).setCell ⟨w.heap.size + 1, 3, none⟩ (.int .u8 old1)).setCell ⟨w.heap.size + 1, 4, none⟩ (.slice ba1 b1.length bc1)).setCell ⟨w.heap.size + 1, 5, none⟩ (.slice aa1 a1.length ac1)).drew := ⟨_, rfl⟩
    rw [← hw2] at HD HE3 ⊢
    have HV2 := Hid.mk' ((Blk.new w #[.int .u8 k1, .int .u32 ao1, .int .u32 av1, .int .u8 old1, .slice ba1 b1.length bc1, .slice aa1 a1.length ac1, .slice ra1 r1.length rc1, .int .u8 fl1] 50).ext HE3.out)
    clear hw2 HZ2 HE2 gv gz gzf zv zz hE1
    have gv := HV2.out.cell
    have gz := HD.out.cell
    have zv := HV2.out.lt
    have zz := HD.out.lt
    have HEw : Hid (Ext w w2) := Hid.mk' (((Ext.refl w).alloc _).trans HE3.out)
    have HC := Hid.mk' (HAK.out ⟨⟨k1, ao1, av1, old1, b1, a1, [], 0⟩, ba1, bc1, aa1, ac1, none, 0⟩ w2 HEw.out ⟨HX.out.1.b.ext HEw.out, HX.out.1.a.ext HEw.out, nilRef _⟩ ⟨HX.out.2.b, HX.out.2.a, Nat.zero_le _⟩)
    simp only at HC
    go_wp2_with (go_at_call 28; refine HC.out.mono ?_; rintro e w3 ⟨rfl, hb3⟩)
    go_ret
    exact ⟨ret_bool HR.out.symm, HEw.out.trans hb3⟩
  | false =>
    have HR := Hid.mk' (show ownB (⟨k1, ao1, av1, old1, b1, a1, r1, fl1⟩ : Ev) = evB (⟨k1, ao1, av1, old1, b1, a1, r1, fl1⟩ : Ev) ⟨k1, 0, 0, 0, [], [], r1, fl1⟩ from by unfold ownB Ev.only; rw [if_neg (by rw [hr]; simp)])
    rw [hr] at HRW
    clear hr
    go_enter Tryz.func82, Tryz.ntmps82
    go_upto_region 4 with (go_at_call 56; refine (HRW.out _).mono ?_; rintro e w1 ⟨rfl, hb1⟩; have HB1 := Hid.mk' hb1; have hE_w1 : Ext ((w.alloc (.cells #[.int .u8 k1, .int .u32 ao1, .int .u32 av1, .int .u8 old1, .slice ba1 b1.length bc1, .slice aa1 a1.length ac1, .slice ra1 r1.length rc1, .int .u8 fl1] 50)).alloc (.cells #[.int .u8 k1, .int .u32 0, .int .u32 0, .int .u8 0, .slice none 0 0, .slice none 0 0, .slice none 0 0, .int .u8 0] 50)) w1 := (by (repeat (with_reducible (first | exact Ext.refl _ | assumption | exact held_left (by assumption) | apply Ext.drewN | apply Ext.drew | apply Ext.alloc | (refine Ext.setCell ?_ (by first | (simp; done) | (simp; omega) | omega) _) | (refine Ext.trans ?_ (by assumption)) | (refine Ext.trans ?_ (held_left (by assumption))))))); obtain ⟨hc_w1, hf_w1⟩ := hE_w1.cells; have hz_w1 := hE_w1.size)
    have HW1 := Hid.mk' (((Ext.refl (w.alloc (.cells #[.int .u8 k1, .int .u32 ao1, .int .u32 av1, .int .u8 old1, .slice ba1 b1.length bc1, .slice aa1 a1.length ac1, .slice ra1 r1.length rc1, .int .u8 fl1] 50))).alloc (.cells #[.int .u8 k1, .int .u32 0, .int .u32 0, .int .u8 0, .slice none 0 0, .slice none 0 0, .slice none 0 0, .int .u8 0] 50)).trans HB1.out)
    have hV : Blk w1 w.heap.size #[.int .u8 k1, .int .u32 ao1, .int .u32 av1, .int .u8 old1, .slice ba1 b1.length bc1, .slice aa1 a1.length ac1, .slice ra1 r1.length rc1, .int .u8 fl1] 50 := (((Blk.new w #[.int .u8 k1, .int .u32 ao1, .int .u32 av1, .int .u8 old1, .slice ba1 b1.length bc1, .slice aa1 a1.length ac1, .slice ra1 r1.length rc1, .int .u8 fl1] 50).alloc _).ext HB1.out)
    have hZ : Blk w1 (w.heap.size + 1) #[.int .u8 k1, .int .u32 0, .int .u32 0, .int .u8 0, .slice none 0 0, .slice none 0 0, .slice none 0 0, .int .u8 0] 50 := ((Blk.new' (w := w.alloc (.cells #[.int .u8 k1, .int .u32 ao1, .int .u32 av1, .int .u8 old1, .slice ba1 b1.length bc1, .slice aa1 a1.length ac1, .slice ra1 r1.length rc1, .int .u8 fl1] 50)) _ _ (by simp)).ext HB1.out)
    have HV := Hid.mk' hV
    have HZ := Hid.mk' hZ
    have gv := hV.cell
    have gz := hZ.cell
    have gzf := hZ.frozen
    have zv := hV.lt
    have zz := hZ.lt
    have hE1 := HW1.out
    clear hV hZ hE_w1 hc_w1 hf_w1 hz_w1
    go_region_held3 (fun w' => Ext (w.alloc (.cells #[.int .u8 k1, .int .u32 ao1, .int .u32 av1, .int .u8 old1, .slice ba1 b1.length bc1, .slice aa1 a1.length ac1, .slice ra1 r1.length rc1, .int .u8 fl1] 50)) w' ∧ (∀ b o, b < (w.alloc (.cells #[.int .u8 k1, .int .u32 ao1, .int .u32 av1, .int .u8 old1, .slice ba1 b1.length bc1, .slice aa1 a1.length ac1, .slice ra1 r1.length rc1, .int .u8 fl1] 50)).heap.size → w'.cell? ⟨b, o, none⟩ = (w.alloc (.cells #[.int .u8 k1, .int .u32 ao1, .int .u32 av1, .int .u8 old1, .slice ba1 b1.length bc1, .slice aa1 a1.length ac1, .slice ra1 r1.length rc1, .int .u8 fl1] 50)).cell? ⟨b, o, none⟩) ∧ (∀ b o, b < (w.alloc (.cells #[.int .u8 k1, .int .u32 ao1, .int .u32 av1, .int .u8 old1, .slice ba1 b1.length bc1, .slice aa1 a1.length ac1, .slice ra1 r1.length rc1, .int .u8 fl1] 50)).heap.size → w'.frozen? ⟨b, o, none⟩ = (w.alloc (.cells #[.int .u8 k1, .int .u32 ao1, .int .u32 av1, .int .u8 old1, .slice ba1 b1.length bc1, .slice aa1 a1.length ac1, .slice ra1 r1.length rc1, .int .u8 fl1] 50)).frozen? ⟨b, o, none⟩)) ((exact held_of (by (repeat (with_reducible (first | exact Ext.refl _ | assumption | exact held_left (by assumption) | apply Ext.drewN | apply Ext.drew | apply Ext.alloc | (refine Ext.setCell ?_ (by first | (simp; done) | (simp; omega) | omega) _) | (refine Ext.trans ?_ (by assumption)) | (refine Ext.trans ?_ (held_left (by assumption))))))))) (fail)
    have HZ2 := Hid.mk' (show Blk ((w1.setCell ⟨w.heap.size + 1, 6, none⟩ (.slice ra1 r1.length rc1)).setCell ⟨w.heap.size + 1, 7, none⟩ (.int .u8 fl1)) (w.heap.size + 1) #[.int .u8 k1, .int .u32 0, .int .u32 0, .int .u8 0, .slice none 0 0, .slice none 0 0, .slice ra1 r1.length rc1, .int .u8 fl1] 50 from by
      have := (HZ.out.set 6 (.slice ra1 r1.length rc1)).set 7 (.int .u8 fl1)
      simpa only [List.setIfInBounds_toArray, List.set_cons_zero, List.set_cons_succ] using this)
    have HE2 := Hid.mk' (show Ext (w.alloc (.cells #[.int .u8 k1, .int .u32 ao1, .int .u32 av1, .int .u8 old1, .slice ba1 b1.length bc1, .slice aa1 a1.length ac1, .slice ra1 r1.length rc1, .int .u8 fl1] 50)) ((w1.setCell ⟨w.heap.size + 1, 6, none⟩ (.slice ra1 r1.length rc1)).setCell ⟨w.heap.size + 1, 7, none⟩ (.int .u8 fl1)) from by (repeat (with_reducible (first | exact Ext.refl _ | assumption | exact held_left (by assumption) | apply Ext.drewN | apply Ext.drew | apply Ext.alloc | (refine Ext.setCell ?_ (by first | (simp; done) | (simp; omega) | omega) _) | (refine Ext.trans ?_ (by assumption)) | (refine Ext.trans ?_ (held_left (by assumption)))))))
    have HD := Hid.mk' HZ2.out.drew
    have HE3 := Hid.mk' HE2.out.drew
    obtain ⟨w2, hw2⟩ : ∃ w2, w2 = ((w1.setCell ⟨w.heap.size + 1, 6, none⟩ (.slice ra1 r1.length rc1)).setCell ⟨w.heap.size + 1, 7, none⟩ (.int .u8 fl1)).drew := ⟨_, rfl⟩
    rw [← hw2] at HD HE3 ⊢
    have HV2 := Hid.mk' ((Blk.new w #[.int .u8 k1, .int .u32 ao1, .int .u32 av1, .int .u8 old1, .slice ba1 b1.length bc1, .slice aa1 a1.length ac1, .slice ra1 r1.length rc1, .int .u8 fl1] 50).ext HE3.out)
    clear hw2 HZ2 HE2 gv gz gzf zv zz hE1
    have gv := HV2.out.cell
    have gz := HD.out.cell
    have zv := HV2.out.lt
    have zz := HD.out.lt
    have HEw : Hid (Ext w w2) := Hid.mk' (((Ext.refl w).alloc _).trans HE3.out)
    have HC := Hid.mk' (HAK.out ⟨⟨k1, 0, 0, 0, [], [], r1, fl1⟩, none, 0, none, 0, ra1, rc1⟩ w2 HEw.out ⟨nilRowP _, nilRowP _, HX.out.1.r.ext HEw.out⟩ ⟨Nat.zero_le _, Nat.zero_le _, HX.out.2.r⟩)
    simp only at HC
    go_wp2_with (go_at_call 28; refine HC.out.mono ?_; rintro e w3 ⟨rfl, hb3⟩)
    go_ret
    exact ⟨ret_bool HR.out.symm, HEw.out.trans hb3⟩

end Go.Proofs.YtibgippchdmdlaaGreat

/-
What is wrong with an event: the program's truncate.
-/
namespace Go.Proofs.YtibgippchdmdlaaGreat
open Go.RowKit

set_option maxRecDepth 100000 in set_option maxHeartbeats 4000000 in
theorem trunc_any (x : EL) (N g : Nat) (c : Value) (ps : List RR) (w : World) (hx : x.at 5 K.pc w) (hs : x.e.small) (hc : Ca w N g c ps) :
    Calls Tryz.prog 83 #[x.agg, .pointer (some ⟨g, 0, none⟩)] w fun e w' => e = .returned (.int .i64 (truncE x.e (ps.map RR.r))) ∧ Ext w w' := by
  have HL := Hid.mk' hx.r
  have HG := Hid.mk' (fun o v W (h : Ext w W) => cget_any N g c ps o v W (hc.ext h))
  have hn := hs.r
  obtain ⟨⟨k1, ao1, av1, old1, b1, a1, r1, fl1⟩, ba1, bc1, aa1, ac1, ra1, rc1⟩ := x
  unfold EL.agg
  simp only at HL hn ⊢
  clear hx hs hc
  by_cases h1 : r1.length < 1
  · have HR := Hid.mk' (show truncE (⟨k1, ao1, av1, old1, b1, a1, r1, fl1⟩ : Ev) (ps.map RR.r) = 17 from if_pos (.inl h1))
    go_enter Tryz.func83, Tryz.ntmps83
    go_wp2
    go_ret
    exact ⟨ret_int HR.out.symm, by (repeat (with_reducible (first | exact Ext.refl _ | assumption | exact held_left (by assumption) | apply Ext.drewN | apply Ext.drew | apply Ext.alloc | (refine Ext.setCell ?_ (by first | (simp; done) | (simp; omega) | omega) _) | (refine Ext.trans ?_ (by assumption)) | (refine Ext.trans ?_ (held_left (by assumption))))))⟩
  by_cases h8 : 8 < r1.length
  · have HR := Hid.mk' (show truncE (⟨k1, ao1, av1, old1, b1, a1, r1, fl1⟩ : Ev) (ps.map RR.r) = 17 from if_pos (.inr h8))
    go_enter Tryz.func83, Tryz.ntmps83
    go_wp2
    go_ret
    exact ⟨ret_int HR.out.symm, by (repeat (with_reducible (first | exact Ext.refl _ | assumption | exact held_left (by assumption) | apply Ext.drewN | apply Ext.drew | apply Ext.alloc | (refine Ext.setCell ?_ (by first | (simp; done) | (simp; omega) | omega) _) | (refine Ext.trans ?_ (by assumption)) | (refine Ext.trans ?_ (held_left (by assumption))))))⟩
  have HR0 := Hid.mk' (show truncE (⟨k1, ao1, av1, old1, b1, a1, r1, fl1⟩ : Ev) (ps.map RR.r) = if risB r1 = false then 15 else if hasAll r1 (ps.map RR.r) = false then 10 else if 3 < fl1 then 4 else 0 from if_neg (by simp only; omega))
  generalize truncE (⟨k1, ao1, av1, old1, b1, a1, r1, fl1⟩ : Ev) (ps.map RR.r) = R at HR0 ⊢
  go_enter Tryz.func83, Tryz.ntmps83
  go_wp2
  go_loopw [6] (fun i wr => ∃ k : Nat, k + 1 ≤ r1.length ∧ i = .int .i64 ((k : Int) + 1) ∧ Hid (∀ j (h : j + 1 < r1.length), j < k → aheadB r1[j].o r1[j].v r1[j + 1].o r1[j + 1].v = true) ∧ Hid (Blk wr w.heap.size #[.int .u8 k1, .int .u32 ao1, .int .u32 av1, .int .u8 old1, .slice ba1 b1.length bc1, .slice aa1 a1.length ac1, .slice ra1 r1.length rc1, .int .u8 fl1] 50) ∧ Hid (Ext w wr)) (fun i _ => r1.length - (intOf i).toNat)
  case atStart => exact ⟨0, by omega, rfl, Hid.mk' (fun j _ h => by omega), Hid.mk' (Blk.new _ _ _), Hid.mk' (by (repeat (with_reducible (first | exact Ext.refl _ | assumption | exact held_left (by assumption) | apply Ext.drewN | apply Ext.drew | apply Ext.alloc | (refine Ext.setCell ?_ (by first | (simp; done) | (simp; omega) | omega) _) | (refine Ext.trans ?_ (by assumption)) | (refine Ext.trans ?_ (held_left (by assumption)))))))⟩
  case round =>
    obtain ⟨k, hk, rfl, hrel, hX, hE⟩ := hrel
    have gv := hX.out.cell
    have zv := hX.out.lt
    by_cases hlt : k + 1 < r1.length
    · have hlt0 : k < r1.length := by omega
      obtain ⟨o1, p1, rfl, hb1, hx1⟩ := HL.out.at_ (i := k) (by simpa using hlt0)
      obtain ⟨f0, f1⟩ := Rf.at_ hlt0 hx1 hb1 hE.out
      obtain ⟨o2, p2, he2, hb2, hx2⟩ := HL.out.at_ (i := k + 1) (by simpa using hlt)
      simp only [Option.some.injEq, Addr.mk.injEq] at he2
      obtain ⟨rfl, rfl, -⟩ := he2
      obtain ⟨s0, s1⟩ := Rf.at_ hlt hx2 hb2 hE.out
      have hbw : o1 < wr.heap.size := Nat.lt_of_lt_of_le hb1 hE.out.size
      have HCP := Hid.mk' (fun W => compare_any r1[k].o r1[k].v r1[k + 1].o r1[k + 1].v W)
      have hcc := cmpR_cases r1[k].o r1[k].v r1[k + 1].o r1[k + 1].v
      have q1 : IntKind.i64.wrap (k : Int) = (k : Int) := IntWalk.i64_in _ (by omega)
      have q2 : ((k : Int) + 1).toNat = k + 1 := by omega
      have i1 : (k : Int) < (r1.length : Int) := by omega
      have i2 : (k : Int) + 1 < (r1.length : Int) := by omega
      have i3 : (0 : Int) ≤ (k : Int) + 1 := by omega
      have i4 : (0 : Int) ≤ (k : Int) := by omega
      have i5 : ((k + 1 : Nat) : Int) = (k : Int) + 1 := by omega
      clear hx1 hx2
      cases hA : aheadB r1[k].o r1[k].v r1[k + 1].o r1[k + 1].v with
      | true =>
        have HA := Hid.mk' hA
        have hneg : cmpR r1[k].o r1[k].v r1[k + 1].o r1[k + 1].v < 0 := cmpR_neg.2 (of_decide_eq_true hA)
        obtain ⟨D, hD⟩ : ∃ D, D = cmpR r1[k].o r1[k].v r1[k + 1].o r1[k + 1].v := ⟨_, rfl⟩
        rw [← hD] at HCP hneg
        have hdd : decide (0 ≤ D) = false := decide_eq_false (by omega)
        clear hA hD hcc hneg
        go_wp2
        go_region_held3 (fun w' => Ext (wr) w' ∧ (∀ b o, b < (wr).heap.size → w'.cell? ⟨b, o, none⟩ = (wr).cell? ⟨b, o, none⟩) ∧ (∀ b o, b < (wr).heap.size → w'.frozen? ⟨b, o, none⟩ = (wr).frozen? ⟨b, o, none⟩)) ((exact held_of (by (repeat (with_reducible (first | exact Ext.refl _ | assumption | exact held_left (by assumption) | apply Ext.drewN | apply Ext.drew | apply Ext.alloc | (refine Ext.setCell ?_ (by first | (simp; done) | (simp; omega) | omega) _) | (refine Ext.trans ?_ (by assumption)) | (refine Ext.trans ?_ (held_left (by assumption))))))))) ((go_at_call 123; refine (HCP.out _).mono ?_; rintro e w2 ⟨rfl, hb2⟩))
        clear q1 q2
        go_wp2
        go_roundw
        case rel => exact ⟨k + 1, by omega, by go_num, Hid.mk' (fun j h hj => by
          by_cases e : j = k
          · subst e; exact HA.out
          · exact hrel.out j h (by omega)), Hid.mk' (hX.out.ext (by (repeat (with_reducible (first | exact Ext.refl _ | assumption | exact held_left (by assumption) | apply Ext.drewN | apply Ext.drew | apply Ext.alloc | (refine Ext.setCell ?_ (by first | (simp; done) | (simp; omega) | omega) _) | (refine Ext.trans ?_ (by assumption)) | (refine Ext.trans ?_ (held_left (by assumption)))))))), Hid.mk' (hE.out.trans (by (repeat (with_reducible (first | exact Ext.refl _ | assumption | exact held_left (by assumption) | apply Ext.drewN | apply Ext.drew | apply Ext.alloc | (refine Ext.setCell ?_ (by first | (simp; done) | (simp; omega) | omega) _) | (refine Ext.trans ?_ (by assumption)) | (refine Ext.trans ?_ (held_left (by assumption))))))))⟩
        case measure => simp [intOf]; omega
      | false =>
        have HR := Hid.mk' (show R = 15 from by rw [HR0.out, if_pos (risB_no hlt hA)])
        have hneg : 0 ≤ cmpR r1[k].o r1[k].v r1[k + 1].o r1[k + 1].v := by
          by_cases h : cmpR r1[k].o r1[k].v r1[k + 1].o r1[k + 1].v < 0
          · rw [show aheadB r1[k].o r1[k].v r1[k + 1].o r1[k + 1].v = true from decide_eq_true (cmpR_neg.1 h)] at hA; cases hA
          · omega
        obtain ⟨D, hD⟩ : ∃ D, D = cmpR r1[k].o r1[k].v r1[k + 1].o r1[k + 1].v := ⟨_, rfl⟩
        rw [← hD] at HCP hneg
        have hdd : decide (0 ≤ D) = true := decide_eq_true hneg
        clear hA hD hcc hneg
        go_wp2
        go_region_held3 (fun w' => Ext (wr) w' ∧ (∀ b o, b < (wr).heap.size → w'.cell? ⟨b, o, none⟩ = (wr).cell? ⟨b, o, none⟩) ∧ (∀ b o, b < (wr).heap.size → w'.frozen? ⟨b, o, none⟩ = (wr).frozen? ⟨b, o, none⟩)) ((exact held_of (by (repeat (with_reducible (first | exact Ext.refl _ | assumption | exact held_left (by assumption) | apply Ext.drewN | apply Ext.drew | apply Ext.alloc | (refine Ext.setCell ?_ (by first | (simp; done) | (simp; omega) | omega) _) | (refine Ext.trans ?_ (by assumption)) | (refine Ext.trans ?_ (held_left (by assumption))))))))) ((go_at_call 123; refine (HCP.out _).mono ?_; rintro e w2 ⟨rfl, hb2⟩))
        clear q1 q2
        go_wp2
        go_ret
        exact ⟨ret_int HR.out.symm, hE.out.trans (by (repeat (with_reducible (first | exact Ext.refl _ | assumption | exact held_left (by assumption) | apply Ext.drewN | apply Ext.drew | apply Ext.alloc | (refine Ext.setCell ?_ (by first | (simp; done) | (simp; omega) | omega) _) | (refine Ext.trans ?_ (by assumption)) | (refine Ext.trans ?_ (held_left (by assumption)))))))⟩
    · have HR1 := Hid.mk' (show R = if hasAll r1 (ps.map RR.r) = false then 10 else if 3 < fl1 then 4 else 0 from by rw [HR0.out, if_neg (by rw [risB_true.2 (fun i h => hrel.out i h (by omega))]; simp)])
      clear HR0 hrel
      obtain ⟨wo, hwo⟩ : ∃ x, x = wr := ⟨_, rfl⟩
      subst hwo
      go_wp2
      go_loopw [41] (fun i wr => ∃ k : Nat, k ≤ r1.length ∧ i = .int .i64 k ∧ Hid (∀ j (h : j < r1.length), j < k → hasR r1[j].o r1[j].v (ps.map RR.r) = true) ∧ Hid (Ext wo wr)) (fun i _ => r1.length - (intOf i).toNat)
      case atStart => exact ⟨0, by omega, rfl, Hid.mk' (fun j _ h => by omega), Hid.mk' (by (repeat (with_reducible (first | exact Ext.refl _ | assumption | exact held_left (by assumption) | apply Ext.drewN | apply Ext.drew | apply Ext.alloc | (refine Ext.setCell ?_ (by first | (simp; done) | (simp; omega) | omega) _) | (refine Ext.trans ?_ (by assumption)) | (refine Ext.trans ?_ (held_left (by assumption)))))))⟩
      case round =>
        obtain ⟨m, hm, rfl, hrel, hF⟩ := hrel
        have gv2 := (hX.out.ext hF.out).cell
        have zv2 := (hX.out.ext hF.out).lt
        clear gv zv
        by_cases hlt2 : m < r1.length
        · obtain ⟨o1, p1, rfl, hb1, hx1⟩ := HL.out.at_ (i := m) (by simpa using hlt2)
          obtain ⟨f0, f1⟩ := Rf.at_ hlt2 hx1 hb1 (hE.out.trans hF.out)
          have hbw : o1 < wr.heap.size := Nat.lt_of_lt_of_le hb1 (hE.out.trans hF.out).size
          have HGT := Hid.mk' (fun W (h : Ext wr W) => HG.out r1[m].o r1[m].v W (hE.out.trans (hF.out.trans h)))
          clear hx1
          cases hA : hasR r1[m].o r1[m].v (ps.map RR.r) with
          | true =>
            have HA := Hid.mk' hA
            rw [hA] at HGT
            clear hA
            go_wp2_with (go_at_call 44; refine (HGT.out _ (by (repeat (with_reducible (first | exact Ext.refl _ | assumption | exact held_left (by assumption) | apply Ext.drewN | apply Ext.drew | apply Ext.alloc | (refine Ext.setCell ?_ (by first | (simp; done) | (simp; omega) | omega) _) | (refine Ext.trans ?_ (by assumption)) | (refine Ext.trans ?_ (held_left (by assumption)))))))).mono ?_; rintro e w3 ⟨⟨⟨oid, ver, nm, id, cols⟩, qa, qc⟩, rfl, -, -, hb3⟩; (try unfold RR.agg); (try simp only))
            go_roundw
            case rel => exact ⟨m + 1, by omega, by go_num, Hid.mk' (fun j h hj => by
              by_cases e : j = m
              · subst e; exact HA.out
              · exact hrel.out j h (by omega)), Hid.mk' (hF.out.trans (by (repeat (with_reducible (first | exact Ext.refl _ | assumption | exact held_left (by assumption) | apply Ext.drewN | apply Ext.drew | apply Ext.alloc | (refine Ext.setCell ?_ (by first | (simp; done) | (simp; omega) | omega) _) | (refine Ext.trans ?_ (by assumption)) | (refine Ext.trans ?_ (held_left (by assumption))))))))⟩
            case measure => simp [intOf]; omega
          | false =>
            have HR := Hid.mk' (show R = 10 from by rw [HR1.out, if_pos (hasAll_no hlt2 hA)])
            rw [hA] at HGT
            clear hA
            go_wp2_with (go_at_call 44; refine (HGT.out _ (by (repeat (with_reducible (first | exact Ext.refl _ | assumption | exact held_left (by assumption) | apply Ext.drewN | apply Ext.drew | apply Ext.alloc | (refine Ext.setCell ?_ (by first | (simp; done) | (simp; omega) | omega) _) | (refine Ext.trans ?_ (by assumption)) | (refine Ext.trans ?_ (held_left (by assumption)))))))).mono ?_; rintro e w3 ⟨⟨⟨oid, ver, nm, id, cols⟩, qa, qc⟩, rfl, -, -, hb3⟩; (try unfold RR.agg); (try simp only))
            go_ret
            exact ⟨ret_int HR.out.symm, hE.out.trans (hF.out.trans (by (repeat (with_reducible (first | exact Ext.refl _ | assumption | exact held_left (by assumption) | apply Ext.drewN | apply Ext.drew | apply Ext.alloc | (refine Ext.setCell ?_ (by first | (simp; done) | (simp; omega) | omega) _) | (refine Ext.trans ?_ (by assumption)) | (refine Ext.trans ?_ (held_left (by assumption))))))))⟩
        · have HR2 := Hid.mk' (show R = if 3 < fl1 then 4 else 0 from by rw [HR1.out, if_neg (by rw [hasAll_yes (fun i h => hrel.out i h (by omega))]; simp)])
          clear HR1 hrel
          by_cases h3 : 3 < fl1
          · have HR := Hid.mk' (show R = 4 from by rw [HR2.out, if_pos h3])
            go_wp2
            go_ret
            exact ⟨ret_int HR.out.symm, hE.out.trans hF.out⟩
          · have HR := Hid.mk' (show R = 0 from by rw [HR2.out, if_neg h3])
            go_wp2
            go_ret
            exact ⟨ret_int HR.out.symm, hE.out.trans hF.out⟩

end Go.Proofs.YtibgippchdmdlaaGreat

/-
What is wrong with an event: the program's Right.
-/
namespace Go.Proofs.YtibgippchdmdlaaGreat
open Go.RowKit

structure Ev.wk (e : Ev) : Prop where
  b : ∀ c ∈ e.b, c.wk
  a : ∀ c ∈ e.a, c.wk
  old : 0 ≤ e.old

set_option maxRecDepth 100000 in set_option maxHeartbeats 4000000 in
theorem eright_any (x : EL) (N g : Nat) (c : Value) (ps : List RR) (w : World) (hx : x.at 5 K.pc w) (hs : x.e.small) (hwk : x.e.wk) (hc : Ca w N g c ps) :
    Calls Tryz.prog 37 #[x.agg, .pointer (some ⟨g, 0, none⟩)] w fun e w' => e = .returned (.int .i64 (evE x.e (ps.map RR.r))) ∧ Ext w w' := by
  have HRW := Hid.mk' (fun W => rowed_any x W)
  have HOW := Hid.mk' (fun W (h : Ext w W) => pown13_any x W (hx.ext h) hs)
  have HTR := Hid.mk' (fun W (h : Ext w W) => trunc_any x N g c ps W (hx.ext h) hs (hc.ext h))
  have HG := Hid.mk' (fun W (h : Ext w W) => cget_any N g c ps x.e.ao x.e.av W (hc.ext h))
  have HGI := Hid.mk' (fun (r : Rl) (h : getR x.e.ao x.e.av (ps.map RR.r) = some r) W (h2 : Ext w W) => cget_is (hc.ext h2) h)
  have HIM := Hid.mk' (fun (r : Rl) (a2 : Option Addr) (c2 : Nat) (hr : r ∈ ps.map RR.r) W (h : Ext w W) (hl : Sl W (.slice a2 r.cols.length c2) 3 (r.cols.map Col.cells)) (hcp : r.cols.length ≤ c2) =>
    (show Calls Tryz.prog 84 #[.agg #[.int .u32 r.oid, .int .u32 r.ver, .string r.nm, .int .u8 r.id, .slice a2 r.cols.length c2], .int .u8 x.e.kind, .int .u8 x.e.old, .slice x.ba x.e.b.length x.bc, .slice x.aa x.e.a.length x.ac] W (fun e w' => e = .returned (.int .i64 (imgE r x.e.kind x.e.old x.e.b x.e.a)) ∧ Ext W w') from by
      obtain ⟨p, hp, rfl⟩ := List.mem_map.1 hr
      have hwb := hc.wb p hp
      exact image_any x.e.kind x.e.old x.e.b x.e.a x.ba x.aa x.bc x.ac p.r.oid p.r.ver p.r.nm p.r.id p.r.cols a2 c2 W hl hcp (by have := hc.n16 hp; omega) (hx.b.ext h) (hx.a.ext h) hs.b hs.a hwk.b hwk.a hwb.cs hwb.nm hwb.idn hwk.old))
  clear hx hs hwk hc
  obtain ⟨⟨k1, ao1, av1, old1, b1, a1, r1, fl1⟩, ba1, bc1, aa1, ac1, ra1, rc1⟩ := x
  unfold EL.agg at HRW HOW HTR ⊢
  simp only at HRW HOW HTR HG HGI HIM ⊢
  by_cases h0 : k1 < 4 ∨ 7 < k1
  · have HR := Hid.mk' (show evE (⟨k1, ao1, av1, old1, b1, a1, r1, fl1⟩ : Ev) (ps.map RR.r) = 7 from if_pos h0)
    have hr : rowedB k1 = false := decide_eq_false (by omega)
    have h7 : (k1 != 7) = true := by simp; omega
    rw [hr] at HRW
    clear hr h0
    go_enter Tryz.func37, Tryz.ntmps37
    go_wp2_with (go_at_call 56; refine (HRW.out _).mono ?_; rintro e w1 ⟨rfl, hb1⟩; have hE_w1 : Ext (w.alloc (.cells #[.int .u8 k1, .int .u32 ao1, .int .u32 av1, .int .u8 old1, .slice ba1 b1.length bc1, .slice aa1 a1.length ac1, .slice ra1 r1.length rc1, .int .u8 fl1] 50)) w1 := (by (repeat (with_reducible (first | exact Ext.refl _ | assumption | exact held_left (by assumption) | apply Ext.drewN | apply Ext.drew | apply Ext.alloc | (refine Ext.setCell ?_ (by first | (simp; done) | (simp; omega) | omega) _) | (refine Ext.trans ?_ (by assumption)) | (refine Ext.trans ?_ (held_left (by assumption))))))); obtain ⟨hc_w1, hf_w1⟩ := hE_w1.cells; have hz_w1 := hE_w1.size)
    go_ret
    exact ⟨ret_int HR.out.symm, by (repeat (with_reducible (first | exact Ext.refl _ | assumption | exact held_left (by assumption) | apply Ext.drewN | apply Ext.drew | apply Ext.alloc | (refine Ext.setCell ?_ (by first | (simp; done) | (simp; omega) | omega) _) | (refine Ext.trans ?_ (by assumption)) | (refine Ext.trans ?_ (held_left (by assumption))))))⟩
  have HR0 := Hid.mk' (show evE (⟨k1, ao1, av1, old1, b1, a1, r1, fl1⟩ : Ev) (ps.map RR.r) = _ from if_neg h0)
  simp only at HR0
  cases ho : ownB (⟨k1, ao1, av1, old1, b1, a1, r1, fl1⟩ : Ev) with
  | false =>
    have HR := Hid.mk' (show evE (⟨k1, ao1, av1, old1, b1, a1, r1, fl1⟩ : Ev) (ps.map RR.r) = 3 from by rw [HR0.out, if_pos ho])
    rw [ho] at HOW
    clear HR0 ho
    by_cases h7 : k1 = 7
    · have hr : rowedB k1 = false := decide_eq_false (by omega)
      have h7' : (k1 != 7) = false := by simp; omega
      rw [hr] at HRW
      clear hr h0 h7
      go_enter Tryz.func37, Tryz.ntmps37
      go_wp2_with (first | (go_at_call 56; refine (HRW.out _).mono ?_; rintro e w1 ⟨rfl, hb1⟩; have hE_w1 : Ext (w.alloc (.cells #[.int .u8 k1, .int .u32 ao1, .int .u32 av1, .int .u8 old1, .slice ba1 b1.length bc1, .slice aa1 a1.length ac1, .slice ra1 r1.length rc1, .int .u8 fl1] 50)) w1 := (by (repeat (with_reducible (first | exact Ext.refl _ | assumption | exact held_left (by assumption) | apply Ext.drewN | apply Ext.drew | apply Ext.alloc | (refine Ext.setCell ?_ (by first | (simp; done) | (simp; omega) | omega) _) | (refine Ext.trans ?_ (by assumption)) | (refine Ext.trans ?_ (held_left (by assumption))))))); obtain ⟨hc_w1, hf_w1⟩ := hE_w1.cells; have hz_w1 := hE_w1.size) | (go_at_call 82; refine (HOW.out _ (by (repeat (with_reducible (first | exact Ext.refl _ | assumption | exact held_left (by assumption) | apply Ext.drewN | apply Ext.drew | apply Ext.alloc | (refine Ext.setCell ?_ (by first | (simp; done) | (simp; omega) | omega) _) | (refine Ext.trans ?_ (by assumption)) | (refine Ext.trans ?_ (held_left (by assumption)))))))).mono ?_; rintro e w2 ⟨rfl, hb2⟩; (have hE_w2 : Ext (w.alloc (.cells #[.int .u8 k1, .int .u32 ao1, .int .u32 av1, .int .u8 old1, .slice ba1 b1.length bc1, .slice aa1 a1.length ac1, .slice ra1 r1.length rc1, .int .u8 fl1] 50)) w2 := (by (repeat (with_reducible (first | exact Ext.refl _ | assumption | exact held_left (by assumption) | apply Ext.drewN | apply Ext.drew | apply Ext.alloc | (refine Ext.setCell ?_ (by first | (simp; done) | (simp; omega) | omega) _) | (refine Ext.trans ?_ (by assumption)) | (refine Ext.trans ?_ (held_left (by assumption))))))); obtain ⟨hc_w2, hf_w2⟩ := hE_w2.cells; have hz_w2 := hE_w2.size)))
      go_ret
      exact ⟨ret_int HR.out.symm, by (repeat (with_reducible (first | exact Ext.refl _ | assumption | exact held_left (by assumption) | apply Ext.drewN | apply Ext.drew | apply Ext.alloc | (refine Ext.setCell ?_ (by first | (simp; done) | (simp; omega) | omega) _) | (refine Ext.trans ?_ (by assumption)) | (refine Ext.trans ?_ (held_left (by assumption))))))⟩
    · have hr : rowedB k1 = true := decide_eq_true (by omega)
      rw [hr] at HRW
      clear hr h0 h7
      go_enter Tryz.func37, Tryz.ntmps37
      go_wp2_with (first | (go_at_call 56; refine (HRW.out _).mono ?_; rintro e w1 ⟨rfl, hb1⟩; have hE_w1 : Ext (w.alloc (.cells #[.int .u8 k1, .int .u32 ao1, .int .u32 av1, .int .u8 old1, .slice ba1 b1.length bc1, .slice aa1 a1.length ac1, .slice ra1 r1.length rc1, .int .u8 fl1] 50)) w1 := (by (repeat (with_reducible (first | exact Ext.refl _ | assumption | exact held_left (by assumption) | apply Ext.drewN | apply Ext.drew | apply Ext.alloc | (refine Ext.setCell ?_ (by first | (simp; done) | (simp; omega) | omega) _) | (refine Ext.trans ?_ (by assumption)) | (refine Ext.trans ?_ (held_left (by assumption))))))); obtain ⟨hc_w1, hf_w1⟩ := hE_w1.cells; have hz_w1 := hE_w1.size) | (go_at_call 82; refine (HOW.out _ (by (repeat (with_reducible (first | exact Ext.refl _ | assumption | exact held_left (by assumption) | apply Ext.drewN | apply Ext.drew | apply Ext.alloc | (refine Ext.setCell ?_ (by first | (simp; done) | (simp; omega) | omega) _) | (refine Ext.trans ?_ (by assumption)) | (refine Ext.trans ?_ (held_left (by assumption)))))))).mono ?_; rintro e w2 ⟨rfl, hb2⟩; (have hE_w2 : Ext (w.alloc (.cells #[.int .u8 k1, .int .u32 ao1, .int .u32 av1, .int .u8 old1, .slice ba1 b1.length bc1, .slice aa1 a1.length ac1, .slice ra1 r1.length rc1, .int .u8 fl1] 50)) w2 := (by (repeat (with_reducible (first | exact Ext.refl _ | assumption | exact held_left (by assumption) | apply Ext.drewN | apply Ext.drew | apply Ext.alloc | (refine Ext.setCell ?_ (by first | (simp; done) | (simp; omega) | omega) _) | (refine Ext.trans ?_ (by assumption)) | (refine Ext.trans ?_ (held_left (by assumption))))))); obtain ⟨hc_w2, hf_w2⟩ := hE_w2.cells; have hz_w2 := hE_w2.size)))
      go_ret
      exact ⟨ret_int HR.out.symm, by (repeat (with_reducible (first | exact Ext.refl _ | assumption | exact held_left (by assumption) | apply Ext.drewN | apply Ext.drew | apply Ext.alloc | (refine Ext.setCell ?_ (by first | (simp; done) | (simp; omega) | omega) _) | (refine Ext.trans ?_ (by assumption)) | (refine Ext.trans ?_ (held_left (by assumption))))))⟩
  | true =>
  rw [ho] at HOW
  by_cases h7 : k1 = 7
  · have HR := Hid.mk' (show evE (⟨k1, ao1, av1, old1, b1, a1, r1, fl1⟩ : Ev) (ps.map RR.r) = truncE (⟨k1, ao1, av1, old1, b1, a1, r1, fl1⟩ : Ev) (ps.map RR.r) from by rw [HR0.out, if_neg (by rw [ho]; simp), if_pos h7])
    have hr : rowedB k1 = false := decide_eq_false (by omega)
    have h7' : (k1 != 7) = false := by simp; omega
    have h7'' : (k1 == 7) = true := by simp; omega
    rw [hr] at HRW
    clear hr h0 h7 HR0 ho
    go_enter Tryz.func37, Tryz.ntmps37
    go_wp2_with (first | (go_at_call 56; refine (HRW.out _).mono ?_; rintro e w1 ⟨rfl, hb1⟩; have hE_w1 : Ext (w.alloc (.cells #[.int .u8 k1, .int .u32 ao1, .int .u32 av1, .int .u8 old1, .slice ba1 b1.length bc1, .slice aa1 a1.length ac1, .slice ra1 r1.length rc1, .int .u8 fl1] 50)) w1 := (by (repeat (with_reducible (first | exact Ext.refl _ | assumption | exact held_left (by assumption) | apply Ext.drewN | apply Ext.drew | apply Ext.alloc | (refine Ext.setCell ?_ (by first | (simp; done) | (simp; omega) | omega) _) | (refine Ext.trans ?_ (by assumption)) | (refine Ext.trans ?_ (held_left (by assumption))))))); obtain ⟨hc_w1, hf_w1⟩ := hE_w1.cells; have hz_w1 := hE_w1.size) | (go_at_call 82; refine (HOW.out _ (by (repeat (with_reducible (first | exact Ext.refl _ | assumption | exact held_left (by assumption) | apply Ext.drewN | apply Ext.drew | apply Ext.alloc | (refine Ext.setCell ?_ (by first | (simp; done) | (simp; omega) | omega) _) | (refine Ext.trans ?_ (by assumption)) | (refine Ext.trans ?_ (held_left (by assumption)))))))).mono ?_; rintro e w2 ⟨rfl, hb2⟩; (have hE_w2 : Ext (w.alloc (.cells #[.int .u8 k1, .int .u32 ao1, .int .u32 av1, .int .u8 old1, .slice ba1 b1.length bc1, .slice aa1 a1.length ac1, .slice ra1 r1.length rc1, .int .u8 fl1] 50)) w2 := (by (repeat (with_reducible (first | exact Ext.refl _ | assumption | exact held_left (by assumption) | apply Ext.drewN | apply Ext.drew | apply Ext.alloc | (refine Ext.setCell ?_ (by first | (simp; done) | (simp; omega) | omega) _) | (refine Ext.trans ?_ (by assumption)) | (refine Ext.trans ?_ (held_left (by assumption))))))); obtain ⟨hc_w2, hf_w2⟩ := hE_w2.cells; have hz_w2 := hE_w2.size)) | (go_at_call 83; refine (HTR.out _ (by (repeat (with_reducible (first | exact Ext.refl _ | assumption | exact held_left (by assumption) | apply Ext.drewN | apply Ext.drew | apply Ext.alloc | (refine Ext.setCell ?_ (by first | (simp; done) | (simp; omega) | omega) _) | (refine Ext.trans ?_ (by assumption)) | (refine Ext.trans ?_ (held_left (by assumption)))))))).mono ?_; rintro e w3 ⟨rfl, hb3⟩))
    go_ret
    exact ⟨ret_int HR.out.symm, by (repeat (with_reducible (first | exact Ext.refl _ | assumption | exact held_left (by assumption) | apply Ext.drewN | apply Ext.drew | apply Ext.alloc | (refine Ext.setCell ?_ (by first | (simp; done) | (simp; omega) | omega) _) | (refine Ext.trans ?_ (by assumption)) | (refine Ext.trans ?_ (held_left (by assumption))))))⟩
  have hr : rowedB k1 = true := decide_eq_true (by omega)
  have h7' : (k1 == 7) = false := by simpa using h7
  rw [hr] at HRW
  rw [if_neg (by rw [ho]; simp), if_neg h7] at HR0
  clear hr h0 h7 ho
  cases hg : getR ao1 av1 (ps.map RR.r) with
  | none =>
    have HR := Hid.mk' (show evE (⟨k1, ao1, av1, old1, b1, a1, r1, fl1⟩ : Ev) (ps.map RR.r) = 10 from by rw [HR0.out, hg])
    have hh : hasR ao1 av1 (ps.map RR.r) = false := getR_none.1 hg
    rw [hh] at HG
    clear hg hh HR0
    go_enter Tryz.func37, Tryz.ntmps37
    go_wp2_with (first | (go_at_call 56; refine (HRW.out _).mono ?_; rintro e w1 ⟨rfl, hb1⟩; have hE_w1 : Ext (w.alloc (.cells #[.int .u8 k1, .int .u32 ao1, .int .u32 av1, .int .u8 old1, .slice ba1 b1.length bc1, .slice aa1 a1.length ac1, .slice ra1 r1.length rc1, .int .u8 fl1] 50)) w1 := (by (repeat (with_reducible (first | exact Ext.refl _ | assumption | exact held_left (by assumption) | apply Ext.drewN | apply Ext.drew | apply Ext.alloc | (refine Ext.setCell ?_ (by first | (simp; done) | (simp; omega) | omega) _) | (refine Ext.trans ?_ (by assumption)) | (refine Ext.trans ?_ (held_left (by assumption))))))); obtain ⟨hc_w1, hf_w1⟩ := hE_w1.cells; have hz_w1 := hE_w1.size) | (go_at_call 82; refine (HOW.out _ (by (repeat (with_reducible (first | exact Ext.refl _ | assumption | exact held_left (by assumption) | apply Ext.drewN | apply Ext.drew | apply Ext.alloc | (refine Ext.setCell ?_ (by first | (simp; done) | (simp; omega) | omega) _) | (refine Ext.trans ?_ (by assumption)) | (refine Ext.trans ?_ (held_left (by assumption)))))))).mono ?_; rintro e w2 ⟨rfl, hb2⟩; (have hE_w2 : Ext (w.alloc (.cells #[.int .u8 k1, .int .u32 ao1, .int .u32 av1, .int .u8 old1, .slice ba1 b1.length bc1, .slice aa1 a1.length ac1, .slice ra1 r1.length rc1, .int .u8 fl1] 50)) w2 := (by (repeat (with_reducible (first | exact Ext.refl _ | assumption | exact held_left (by assumption) | apply Ext.drewN | apply Ext.drew | apply Ext.alloc | (refine Ext.setCell ?_ (by first | (simp; done) | (simp; omega) | omega) _) | (refine Ext.trans ?_ (by assumption)) | (refine Ext.trans ?_ (held_left (by assumption))))))); obtain ⟨hc_w2, hf_w2⟩ := hE_w2.cells; have hz_w2 := hE_w2.size)) | (go_at_call 44; refine (HG.out _ (by (repeat (with_reducible (first | exact Ext.refl _ | assumption | exact held_left (by assumption) | apply Ext.drewN | apply Ext.drew | apply Ext.alloc | (refine Ext.setCell ?_ (by first | (simp; done) | (simp; omega) | omega) _) | (refine Ext.trans ?_ (by assumption)) | (refine Ext.trans ?_ (held_left (by assumption)))))))).mono ?_; rintro e w3 ⟨⟨⟨oid, ver, nm, id, cols⟩, qa, qc⟩, rfl, -, -, hb3⟩; (try unfold RR.agg); (try simp only)))
    go_ret
    exact ⟨ret_int HR.out.symm, by (repeat (with_reducible (first | exact Ext.refl _ | assumption | exact held_left (by assumption) | apply Ext.drewN | apply Ext.drew | apply Ext.alloc | (refine Ext.setCell ?_ (by first | (simp; done) | (simp; omega) | omega) _) | (refine Ext.trans ?_ (by assumption)) | (refine Ext.trans ?_ (held_left (by assumption))))))⟩
  | some r =>
    have HR := Hid.mk' (show evE (⟨k1, ao1, av1, old1, b1, a1, r1, fl1⟩ : Ev) (ps.map RR.r) = imgE r k1 old1 b1 a1 from by rw [HR0.out, hg])
    have HGI2 := Hid.mk' (HGI.out r hg)
    have HM := Hid.mk' ((getR_some hg).1)
    have HIM2 := Hid.mk' (fun a2 c2 => HIM.out r a2 c2 HM.out)
    generalize imgE r k1 old1 b1 a1 = R at HR HIM2
    obtain ⟨oid, ver, nm, id, cols⟩ := r
    simp only at HGI2 HIM2
    clear hg HR0 HGI HG
    go_enter Tryz.func37, Tryz.ntmps37
    go_wp2_with (first
      | (go_at_call 56; refine (HRW.out _).mono ?_; rintro e w1 ⟨rfl, hb1⟩; have hE_w1 : Ext (w.alloc (.cells #[.int .u8 k1, .int .u32 ao1, .int .u32 av1, .int .u8 old1, .slice ba1 b1.length bc1, .slice aa1 a1.length ac1, .slice ra1 r1.length rc1, .int .u8 fl1] 50)) w1 := (by (repeat (with_reducible (first | exact Ext.refl _ | assumption | exact held_left (by assumption) | apply Ext.drewN | apply Ext.drew | apply Ext.alloc | (refine Ext.setCell ?_ (by first | (simp; done) | (simp; omega) | omega) _) | (refine Ext.trans ?_ (by assumption)) | (refine Ext.trans ?_ (held_left (by assumption))))))); obtain ⟨hc_w1, hf_w1⟩ := hE_w1.cells; have hz_w1 := hE_w1.size)
      | (go_at_call 82; refine (HOW.out _ (by (repeat (with_reducible (first | exact Ext.refl _ | assumption | exact held_left (by assumption) | apply Ext.drewN | apply Ext.drew | apply Ext.alloc | (refine Ext.setCell ?_ (by first | (simp; done) | (simp; omega) | omega) _) | (refine Ext.trans ?_ (by assumption)) | (refine Ext.trans ?_ (held_left (by assumption)))))))).mono ?_; rintro e w2 ⟨rfl, hb2⟩; (have hE_w2 : Ext (w.alloc (.cells #[.int .u8 k1, .int .u32 ao1, .int .u32 av1, .int .u8 old1, .slice ba1 b1.length bc1, .slice aa1 a1.length ac1, .slice ra1 r1.length rc1, .int .u8 fl1] 50)) w2 := (by (repeat (with_reducible (first | exact Ext.refl _ | assumption | exact held_left (by assumption) | apply Ext.drewN | apply Ext.drew | apply Ext.alloc | (refine Ext.setCell ?_ (by first | (simp; done) | (simp; omega) | omega) _) | (refine Ext.trans ?_ (by assumption)) | (refine Ext.trans ?_ (held_left (by assumption))))))); obtain ⟨hc_w2, hf_w2⟩ := hE_w2.cells; have hz_w2 := hE_w2.size))
      | (go_at_call 44; refine (HGI2.out _ (by (repeat (with_reducible (first | exact Ext.refl _ | assumption | exact held_left (by assumption) | apply Ext.drewN | apply Ext.drew | apply Ext.alloc | (refine Ext.setCell ?_ (by first | (simp; done) | (simp; omega) | omega) _) | (refine Ext.trans ?_ (by assumption)) | (refine Ext.trans ?_ (held_left (by assumption)))))))).mono ?_; rintro e w3 ⟨⟨qr, qa, qc⟩, rfl, hqr, hqo, hb3⟩; simp only at hqr; subst hqr; have HQO := Hid.mk' hqo; (have hE_w3 : Ext (w.alloc (.cells #[.int .u8 k1, .int .u32 ao1, .int .u32 av1, .int .u8 old1, .slice ba1 b1.length bc1, .slice aa1 a1.length ac1, .slice ra1 r1.length rc1, .int .u8 fl1] 50)) w3 := (by (repeat (with_reducible (first | exact Ext.refl _ | assumption | exact held_left (by assumption) | apply Ext.drewN | apply Ext.drew | apply Ext.alloc | (refine Ext.setCell ?_ (by first | (simp; done) | (simp; omega) | omega) _) | (refine Ext.trans ?_ (by assumption)) | (refine Ext.trans ?_ (held_left (by assumption))))))); obtain ⟨hc_w3, hf_w3⟩ := hE_w3.cells; have hz_w3 := hE_w3.size); have z3 : w.heap.size < w3.heap.size := (by have := hE_w3.size; simp at this; omega); clear hqo; (try simp only))
      | (go_at_call 84; refine (HIM2.out _ _ _ (by (repeat (with_reducible (first | exact Ext.refl _ | assumption | exact held_left (by assumption) | apply Ext.drewN | apply Ext.drew | apply Ext.alloc | (refine Ext.setCell ?_ (by first | (simp; done) | (simp; omega) | omega) _) | (refine Ext.trans ?_ (by assumption)) | (refine Ext.trans ?_ (held_left (by assumption))))))) (HQO.out.in.ext (by (repeat (with_reducible (first | exact Ext.refl _ | assumption | exact held_left (by assumption) | apply Ext.drewN | apply Ext.drew | apply Ext.alloc | (refine Ext.setCell ?_ (by first | (simp; done) | (simp; omega) | omega) _) | (refine Ext.trans ?_ (by assumption)) | (refine Ext.trans ?_ (held_left (by assumption)))))))) (owns_cap HQO.out)).mono ?_; rintro e w4 ⟨rfl, hb4⟩))
    go_ret
    exact ⟨ret_int HR.out.symm, by (repeat (with_reducible (first | exact Ext.refl _ | assumption | exact held_left (by assumption) | apply Ext.drewN | apply Ext.drew | apply Ext.alloc | (refine Ext.setCell ?_ (by first | (simp; done) | (simp; omega) | omega) _) | (refine Ext.trans ?_ (by assumption)) | (refine Ext.trans ?_ (held_left (by assumption))))))⟩

end Go.Proofs.YtibgippchdmdlaaGreat

/-
The record of an event that truncates.
-/
namespace Go.Proofs.YtibgippchdmdlaaGreat
open Go.RowKit

def refsBy (l : List Rf) : List Int := (l.map fun r => sevens r.o.toNat ++ sevens r.v.toNat).flatten
theorem refsBy_snoc (l : List Rf) (r : Rf) : refsBy (l ++ [r]) = refsBy l ++ (sevens r.o.toNat ++ sevens r.v.toNat) := by unfold refsBy; simp
structure Rf.u32 (r : Rf) : Prop where
  o : 0 ≤ r.o ∧ r.o < 4294967296
  v : 0 ≤ r.v ∧ r.v < 4294967296
theorem sevens_u32 {x : Int} (h : x < 4294967296) : (sevens x.toNat).length ≤ 10 := sevens_len10 (by
  have : (2 : Nat) ^ 64 = 18446744073709551616 := by decide
  omega)
theorem refsBy_len {l : List Rf} (h : ∀ r ∈ l, r.u32) : (refsBy l).length ≤ l.length * 20 := by
  induction l with
  | nil => exact Nat.le_refl _
  | cons r l ih =>
    have h1 := ih (fun y hy => h y (List.mem_cons_of_mem _ hy))
    have h2 := sevens_u32 (h r (by simp)).o.2
    have h3 := sevens_u32 (h r (by simp)).v.2
    have e : refsBy (r :: l) = (sevens r.o.toNat ++ sevens r.v.toNat) ++ refsBy l := by unfold refsBy; simp
    rw [e, List.length_append, List.length_append, List.length_cons]; omega
theorem refsBy_take {l : List Rf} (h : ∀ r ∈ l, r.u32) (k : Nat) : (refsBy (l.take k)).length ≤ l.length * 20 := by
  have h1 := refsBy_len (l := l.take k) (fun r hr => h r (List.mem_of_mem_take hr))
  have h2 : (l.take k).length ≤ l.length := by rw [List.length_take]; omega
  exact Nat.le_trans h1 (Nat.mul_le_mul_right _ h2)
theorem putRefI_any (v : Value) (l : List Int) (r : Rf) (w : World) (hl : Sl w v 1 (l.map bcell)) (hlen : l.length ≤ 900000) (hr : r.u32) :
    Calls Tryz.prog 43 #[v, .agg #[.int .u32 r.o, .int .u32 r.v]] w fun e w' => ∃ v', e = .returned v' ∧ OB w' w.heap.size v' (l ++ (sevens r.o.toNat ++ sevens r.v.toNat)) ∧ Ext w w' := by
  have h2 : (2 : Nat) ^ 32 = 4294967296 := by decide
  have := hr.o
  have := hr.v
  have h := putRef_any v l r.o.toNat r.v.toNat w hl hlen (by omega) (by omega)
  rw [Int.toNat_of_nonneg hr.o.1, Int.toNat_of_nonneg hr.v.1] at h
  exact h

set_option maxRecDepth 100000 in set_option maxHeartbeats 4000000 in
theorem recput7_any (x : EL) (ver : Int) (N g : Nat) (c : Value) (ps : List RR) (w : World) (hx : x.at 5 K.pc w) (hs : x.e.small) (hwk : x.e.wk) (hc : Ca w N g c ps) (hk : x.e.kind = 7) (hz : evE x.e (ps.map RR.r) = 0) (hn : x.e.rs.length ≤ 8) (hr : ∀ r ∈ x.e.rs, r.u32) (hv : ver = 1 ∨ ver = 2) :
    Calls Tryz.prog 12 #[.pointer (some ⟨g, 0, none⟩), x.agg, .int .u8 ver] w fun e w' => ∃ v', e = .returned (.tuple #[v', .slice none 0 0, .int .i64 0]) ∧ OB w' w.heap.size v' ((x.e.fl :: sevens x.e.rs.length) ++ refsBy x.e.rs) ∧ Ext w w' := by
  have HRG := Hid.mk' (fun W (h : Ext w W) => eright_any x N g c ps W (hx.ext h) hs hwk (hc.ext h))
  rw [hz] at HRG
  have HL := Hid.mk' hx.r
  clear hx hs hwk hc hz
  obtain ⟨⟨k1, ao, av, old, b, a, rs, fl⟩, ba, bc, aa, ac, ra, rc⟩ := x
  unfold EL.agg at HRG ⊢
  simp only at HRG HL hk hn hr ⊢
  subst hk
  have HR := Hid.mk' hr
  have HLN := Hid.mk' (fun k => refsBy_take hr k)
  have h64 : rs.length < 2 ^ 64 := by have : (2 : Nat) ^ 64 = 18446744073709551616 := by decide
                                      omega
  have HS7 := Hid.mk' (sevens_len10 h64)
  have HN := Hid.mk' (fun (w1 : World) => numbers_any (.slice (some ⟨w1.heap.size, 0, none⟩) 1 1) [fl] [rs.length] (w1.heap.size + 1) 1 ((w1.alloc (.cells #[.int .u8 fl] 5)).alloc (.cells #[.int .u64 rs.length] 32)) ((Sl.new w1 #[.int .u8 fl] 5 1 1 1 ([fl].map bcell) rfl (by intro xs hxs; simp at hxs; subst hxs; rfl) rfl).ext ((Ext.refl _).alloc _)) (by simp) (by intro z hz; simp at hz; subst hz; exact h64) (by simp) (by simp) (by simp) (fun i h => by
    obtain rfl : i = 0 := by simp at h; omega
    have hB := (Blk.new' (w := w1.alloc (.cells #[.int .u8 fl] 5)) #[.int .u64 rs.length] 32 (b := w1.heap.size + 1) (by simp)).cell
    rw [hB]; rfl))
  have hrn : (rs.length : Int) < 18446744073709551616 := by omega
  clear hr h64
  rcases hv with rfl | rfl
  all_goals
    go_enter Tryz.func12, Tryz.ntmps12
    go_upto_region 7 with (go_at_call 37; refine (HRG.out _ (by (repeat (with_reducible (first | exact Ext.refl _ | assumption | exact held_left (by assumption) | apply Ext.drewN | apply Ext.drew | apply Ext.alloc | (refine Ext.setCell ?_ (by first | (simp; done) | (simp; omega) | omega) _) | (refine Ext.trans ?_ (by assumption)) | (refine Ext.trans ?_ (held_left (by assumption)))))))).mono ?_; rintro e w1 ⟨rfl, hb1⟩; have HB1 := Hid.mk' hb1; have HE1 := Hid.mk' (((Ext.refl w).alloc _).trans hb1); have HV1 := Hid.mk' ((Blk.new w #[.int .u8 7, .int .u32 ao, .int .u32 av, .int .u8 old, .slice ba b.length bc, .slice aa a.length ac, .slice ra rs.length rc, .int .u8 fl] 50).ext hb1); have gv := HV1.out.cell; have zv := HV1.out.lt; clear hb1)
    go_upto_region 8 with (go_at_call 42; refine (HN.out w1).mono ?_; rintro e w2 ⟨v2, rfl, ho2, hb2⟩; have HO2 := Hid.mk' ho2; have HX2 := Hid.mk' ((((Ext.refl w1).alloc _).alloc _).trans hb2); clear ho2 hb2)
    rw [nums_one] at HO2
    have HO3 : Hid (OB w2 w.heap.size v2 ((fl :: sevens rs.length) ++ refsBy (rs.take 0))) := Hid.mk' (by
      rw [List.take_zero, show refsBy [] = [] from rfl, List.append_nil]
      exact HO2.out.base (by have := HE1.out.size; simp; omega))
    have HE2 := Hid.mk' (HE1.out.trans HX2.out)
    obtain ⟨a2, c2, rfl⟩ := HO3.out.shape
    obtain ⟨n2, hn2⟩ : ∃ n, n = ((fl :: sevens rs.length) ++ refsBy (rs.take 0)).length := ⟨_, rfl⟩
    rw [← hn2] at HO3 ⊢
    clear gv zv hn2
    have gv := (HV1.out.ext HX2.out).cell
    have zv := (HV1.out.ext HX2.out).lt
    clear HO2 HN HRG HX2 HB1 HE1
    go_wp2
    clear gv zv
    go_loopg [10, 44] rs.length (fun z v i wr => ∃ (k : Nat), z + k = rs.length ∧ i = .int .i64 k ∧ Hid (OB wr w.heap.size v ((fl :: sevens rs.length) ++ refsBy (rs.take k))) ∧ Hid (Ext w wr))
    case atStart => exact ⟨0, by omega, rfl, HO3, HE2⟩
    case round =>
      obtain ⟨k, hzk, rfl, hO, hE⟩ := hrel
      by_cases hlt : k < rs.length
      · obtain ⟨b1, o1, rfl, hb1, hx1⟩ := HL.out.at_ (i := k) (by simpa using hlt)
        obtain ⟨f0, f1⟩ := Rf.at_ hlt hx1 hb1 hE.out
        have hbw : b1 < wr.heap.size := Nat.lt_of_lt_of_le hb1 hE.out.size
        have HTK : Hid (refsBy (rs.take (k + 1)) = refsBy (rs.take k) ++ (sevens rs[k].o.toNat ++ sevens rs[k].v.toNat)) := Hid.mk' (by rw [List.take_succ_eq_append_getElem hlt, refsBy_snoc])
        have HRK := Hid.mk' (HR.out _ (List.getElem_mem hlt))
        obtain ⟨r, hre⟩ : ∃ r, r = rs[k] := ⟨_, rfl⟩
        rw [← hre] at f0 f1 HTK HRK
        have HLT := Hid.mk' hlt
        have hd1 : decide (rs.length ≤ k) = false := decide_eq_false (by omega)
        have hd2 : decide ((rs.length : Int) ≤ (k : Int)) = false := decide_eq_false (by omega)
        clear hre hx1 hb1
        have HPR := Hid.mk' (fun v W (h : Ext wr W) (ho : OB wr w.heap.size v ((fl :: sevens rs.length) ++ refsBy (rs.take k))) => putRefI_any v ((fl :: sevens rs.length) ++ refsBy (rs.take k)) r W (ho.ext h).sl (by
          have h1 := HS7.out
          have h2 := HLN.out k
          rw [List.length_append, List.length_cons]; omega) HRK.out)
        go_wp2_with (go_at_call 43; refine (HPR.out _ _ (by (repeat (with_reducible (first | exact Ext.refl _ | assumption | exact held_left (by assumption) | apply Ext.drewN | apply Ext.drew | apply Ext.alloc | (refine Ext.setCell ?_ (by first | (simp; done) | (simp; omega) | omega) _) | (refine Ext.trans ?_ (by assumption)) | (refine Ext.trans ?_ (held_left (by assumption))))))) hO.out).mono ?_; rintro e w3 ⟨v3, rfl, ho3, hb3⟩; have HO4 : Hid (OB w3 w.heap.size v3 ((fl :: sevens rs.length) ++ refsBy (rs.take (k + 1)))) := Hid.mk' (by rw [HTK.out, ← List.append_assoc]; exact ho3.base (by have := hE.out.size; simp; omega)); have HE4 := Hid.mk' (show Ext wr w3 from by (repeat (with_reducible (first | exact Ext.refl _ | assumption | exact held_left (by assumption) | apply Ext.drewN | apply Ext.drew | apply Ext.alloc | (refine Ext.setCell ?_ (by first | (simp; done) | (simp; omega) | omega) _) | (refine Ext.trans ?_ (by assumption)) | (refine Ext.trans ?_ (held_left (by assumption))))))); clear ho3 hb3)
        go_roundg (rs.length - (k + 1))
        case measure => have := HLT.out; omega
        case rel => exact ⟨k + 1, Nat.sub_add_cancel HLT.out, by go_num, HO4, Hid.mk' (hE.out.trans HE4.out)⟩
      · obtain rfl : k = rs.length := by omega
        rw [List.take_length] at hO
        obtain ⟨a4, c4, rfl⟩ := hO.out.shape
        go_wp2
        go_ret3
        exact ⟨_, rfl, hO.out, hE.out⟩

end Go.Proofs.YtibgippchdmdlaaGreat
