import Derived.RangeFuncNested
import Derived.RangeFuncBound
import Derived.RangeFuncCalls
import Derived.RangeFuncLeaves
import Derived.RangeFuncBox
import Derived.Shelf.Abstract
import Derived.Shelf.RegionOpen
import Derived.OwnWalkIn
import Derived.TacticsInMore
import Derived.LoopNIn
import Derived.LoopIn
import Derived.RangeFuncOne
import Derived.Test.YthdjinicmnhgpaaGreatDoorP10

/-
The youngest relation of an oid: the program's Last, over slices.Backward.
-/
namespace Go.Proofs.YthdjinicmnhgpaaGreatDoor
open Go.RowKit Go.Shelf
attribute [local go_sem] Oper.semAt_some

abbrev IX (n : Nat) := { i : Nat // i < n }
/-- The last k places, from the last one on. -/
def backUp (n : Nat) : Nat → List (IX n)
  | 0 => []
  | k + 1 => if h : k < n then backUp n k ++ [⟨n - 1 - k, by omega⟩] else backUp n k
theorem backUp_succ {n k : Nat} (h : k < n) : backUp n (k + 1) = backUp n k ++ [⟨n - 1 - k, by omega⟩] := by
  conv => lhs; unfold backUp
  rw [dif_pos h]
theorem backUp_len {n : Nat} : ∀ k, (backUp n k).length ≤ k
  | 0 => Nat.le_refl _
  | k + 1 => by
    have := backUp_len (n := n) k
    unfold backUp
    split
    · rw [List.length_append, List.length_singleton]; omega
    · omega
theorem backUp_mem {n : Nat} : ∀ k, k ≤ n → ∀ x : IX n, x ∈ backUp n k ↔ n - k ≤ x.1
  | 0, _, x => by have := x.2; simp [backUp]; omega
  | k + 1, hk, x => by
    have ih := backUp_mem k (by omega) x
    have hx := x.2
    rw [backUp_succ (by omega), List.mem_append, ih, List.mem_singleton]
    constructor
    · rintro (h | h)
      · omega
      · have := congrArg Subtype.val h; simp only at this; omega
    · intro h
      by_cases e : x.1 = n - 1 - k
      · right; exact Subtype.ext e
      · left; omega
def encB (ps : List RR) (x : IX ps.length) : Array Value := #[.int .i64 (x.1 : Int), .agg #[.int .u32 (ps[x.1]'x.2).r.oid, .int .u32 (ps[x.1]'x.2).r.ver, .string (ps[x.1]'x.2).r.nm, .int .u8 (ps[x.1]'x.2).r.id, .slice (ps[x.1]'x.2).a (ps[x.1]'x.2).r.cols.length (ps[x.1]'x.2).c]]

/-- The youngest one, from the back. -/
theorem lastUp_from {o : Int} {ps : List RR} {i : Nat} (h : ∀ j (hj : j < ps.length), i < j → ps[j].r.oid ≠ o) : ∀ k, k + i + 1 = ps.length → lastUp o ps ps.length = lastUp o ps (i + 1) := by
  have : ∀ m, i + 1 + m ≤ ps.length → lastUp o ps (i + 1 + m) = lastUp o ps (i + 1) := by
    intro m
    induction m with
    | zero => intro _; rfl
    | succ m ih =>
      intro hm
      rw [show i + 1 + (m + 1) = (i + 1 + m) + 1 by omega, lastUp_miss (by omega) (h _ (by omega) (by omega))]
      exact ih (by omega)
  intro k hk
  have h2 := this k (by omega)
  rw [show i + 1 + k = ps.length by omega] at h2
  exact h2
theorem lastUp_none {o : Int} {ps : List RR} (h : ∀ j (hj : j < ps.length), ps[j].r.oid ≠ o) : ∀ k, lastUp o ps k = none
  | 0 => rfl
  | k + 1 => by
    unfold lastUp
    rw [dif_neg (fun q => h k q.1 q.2)]
    exact lastUp_none h k

theorem owns_kept {A B : World} {row : Option Nat} {base n size : Nat} {e : TypeId} {v : Value} {xs : List Value} (h : A.ownsRow base e size v n xs) (hg : A.grownBy B row) (hr : ∀ r, row = some r → ∃ o : Obj, A.heap[r]? = some o ∧ o.isCells = false) : B.ownsRow base e size v n xs := by
  refine owns_kp h (Kp.of_grown hg) (fun b hb e => ?_)
  obtain ⟨o, ho, hn⟩ := hr b e
  rcases h.2 with ⟨rfl, _⟩ | ⟨g, cap, cur, rfl, hbg, hh, _⟩
  · simp [Value.ownBlock] at hb
  · simp [Value.ownBlock] at hb; subst hb
    rw [hh] at ho; cases ho; simp [Obj.isCells] at hn

/-- What Last leaves in its two results' cells. -/
structure LastAt (N : Nat) (w W : World) (q : RR) : Prop where
  c0 : W.cell? ⟨w.heap.size + 1, 0, none⟩ = some (.int .u32 q.r.oid)
  c1 : W.cell? ⟨w.heap.size + 1, 1, none⟩ = some (.int .u32 q.r.ver)
  c2 : W.cell? ⟨w.heap.size + 1, 2, none⟩ = some (.string q.r.nm)
  c3 : W.cell? ⟨w.heap.size + 1, 3, none⟩ = some (.int .u8 q.r.id)
  c4 : W.cell? ⟨w.heap.size + 1, 4, none⟩ = some (.slice q.a q.r.cols.length q.c)
  b : W.cell? ⟨w.heap.size + 1 + 1, 0, none⟩ = some (.bool true)
  own : q.owned N W
theorem LastAt.kept {N : Nat} {w A B : World} {q : RR} {row : Option Nat} (h : LastAt N w A q) (hg : A.grownBy B row) (hr : ∀ r, row = some r → ∃ o : Obj, A.heap[r]? = some o ∧ o.isCells = false) : LastAt N w B q :=
  ⟨cell_kept h.c0 hg hr, cell_kept h.c1 hg hr, cell_kept h.c2 hg hr, cell_kept h.c3 hg hr, cell_kept h.c4 hg hr, cell_kept h.b hg hr, owns_kept h.own hg hr⟩

end Go.Proofs.YthdjinicmnhgpaaGreatDoor

/-
A range over an iterator that hands out what it has laid down itself: the iterator's word tells of each thing handed out what the memory holds then; a loop whose body always goes on.
-/
namespace Go.Proofs.YthdjinicmnhgpaaGreatDoor
open Go.RowKit

variable {F : Fence} {n : Nat} {P : Program}

/-- The iterator's word: what is handed out meets C in the memory as it is then. -/
def SeqTold {α : Type} (F : Fence) (n : Nat) (P : Program) (g : Nat) (lb : Array Value) (encs : α → Array Value) (C : α → World → Prop) (S : List α → Prop) (N B0 : Nat) (w : World) : Prop :=
  ∀ (l : Nat) (J : List α → World → Prop) (W : World), Below w.heap.size w W → AbidesFrom W.heap.size J →
    (∀ pre x W1, J pre W1 → pre.length < N → C x W1 → YieldAt F (n - 1) P l (encs x) W1 fun e W' => e = .returned (.bool true) ∧ J (pre ++ [x]) W' ∧ Below B0 W1 W') →
    J [] W →
    CallsIn F n P g (#[.func (.yield l) #[] #[]] ++ lb) W fun e W' => (∃ v, e = .returned v) ∧ ∃ xs, S xs ∧ J xs W'

/-- How a body that always goes on is left. -/
def goesOn {α : Type} (B B0 : Nat) (I : List α → World → Prop) (xs : List α) (W : World) : Exit → Act → World → Prop
  | .normal, _, W' => KeepsFrom B W W' ∧ Below B0 W W' ∧ I xs W'
  | _, _, _ => False

theorem below_putObj {B0 : Nat} (W : World) (l : Nat) (o' : Obj) (h : B0 ≤ l) : Below B0 W (W.putObj l o') :=
  have hg := grownBy_putObj' W l o'
  ⟨hg.os, hg.tape, hg.output, hg.size, fun k hk => by
    rcases Nat.lt_or_ge k W.heap.size with h1 | h1
    · exact hg.block k h1 (fun e => by cases e; omega)
    · exact World.putObj_heap_other (by omega)⟩

theorem wpIn_range_told {α : Type} {g : Operand} {ps : Array Tmp} {assign body : Code} {Q : Exit → Act → World → Prop} {a : Act} {w : World}
    (hro : F.round = none) (h1 : 1 ≤ n) {gf : Nat} {lb : Array Value} (hg : a.eval g = .func (.func gf) #[] lb) (hFg : F.fn gf) (eg : ∀ args w, (callFunc gf args).run P w = .ok (.enter gf args) w)
    {encs : α → Array Value} {C : α → World → Prop} {S : List α → Prop} {N B0 : Nat} {w0 : World} (hseq : SeqTold F (n - 1) P gf lb encs C S N B0 w0) (hB0 : B0 ≤ w.heap.size) (hb0 : Below w0.heap.size w0 w) (hps : ∀ x, (encs x).size = ps.size)
    (I : List α → World → Prop) (hI : OwnFrom w.heap.size I) (h0 : I [] w) (Ax : α → Act → World → Prop)
    (hAx : ∀ x a' W l o', Ax x a' W → w.heap.size ≤ l → (∃ o, W.heap[l]? = some o ∧ o.isCells = false) → Ax x a' (W.putObj l o'))
    (hassign : ∀ (l : Nat) (pre : List α) (x : α) (W : World) (K : Act → World → Prop), I pre W → C x W → (∀ a' W', KeepsFrom w.heap.size W W' → Below B0 W W' → I pre W' → Ax x a' W' → K a' W') →
      assign.wpIn (F.inRound l) (n - 1 - 1) P (Exit.then K (fun _ _ _ => False)) { tmps := (ps.zip (encs x)).foldl (fun t (p, v) => t.setIfInBounds p v) a.tmps, defers := [] } W)
    (hbody : ∀ (l : Nat) (pre : List α) (x : α) (a' : Act) (W : World), I pre W → pre.length < N → Ax x a' W → body.wpIn (F.inRound l) (n - 1 - 1) P (goesOn w.heap.size B0 I (pre ++ [x]) W) a' W)
    (hdone : ∀ (D : Nat) (xs : List α) (W : World), w.heap.size ≤ D → S xs → I xs W → W.heap[D]? = some (.deferred (some [])) → Q .normal { a with defers := { target := .collected D, args := #[] } :: a.defers } W) :
    (Code.rangeFunc g ps assign body).wpIn F n P Q a w := by
  refine wpIn_rangeFunc ?_
  intro fn hfn
  rw [hro]
  have hw0 : w0.heap.size ≤ w.heap.size := hb0.size
  obtain ⟨rec, hrec⟩ : ∃ rec : LoopState → Option Code → Loop, rec = fun st pe => { state := st, pending := pe, fn, tmps := a.tmps, params := ps, assign, body, defers := w.heap.size } := ⟨_, rfl⟩
  obtain ⟨W1, hW1⟩ : ∃ W1, (w.alloc (.deferred (some []))).alloc (.loop (rec .ready none)) = W1 := ⟨_, rfl⟩
  have hs1 : W1.heap.size = w.heap.size + 2 := by rw [← hW1]; simp
  have hL1 : W1.heap[w.heap.size + 1]? = some (.loop (rec .ready none)) := by
    rw [← hW1]; have := World.alloc_heap_new (w.alloc (.deferred (some []))) (.loop (rec .ready none)); rwa [World.size_alloc] at this
  have hK1 : W1.heap[w.heap.size]? = some (.deferred (some [])) := by
    rw [← hW1]; exact (Below.heap_alloc _ _ _ (by simp)).trans (World.alloc_heap_new w _)
  refine ⟨w.heap.size + 1, [{ target := .collected w.heap.size, args := #[] }], W1, { target := .fn (.func gf) lb, args := #[.func (.yield (w.heap.size + 1)) #[] #[]] }, W1, gf,
    #[.func (.yield (w.heap.size + 1)) #[] #[]] ++ lb, W1, ?_, ?_, ?_, ?_, fun _ => h1, ?_⟩
  · rw [← hW1, hrec]; exact run_enterLoop_outer _ _ _ _ _
  · simp only [resolve, hg]
    simp [go_sem]
  · intro f' hf'; simp [Target.leads] at hf'; subst hf'; exact hFg
  · simp [invoke, go_sem, eg]
  refine (hseq (w.heap.size + 1) (fun pre W => I pre W ∧ W.heap[w.heap.size + 1]? = some (.loop (rec .ready none)) ∧ W.heap[w.heap.size]? = some (.deferred (some []))) W1
    (by rw [← hW1]; exact hb0.trans ((((Below.refl _ w).alloc (Nat.le_refl _) _).alloc (by simp) _).mono hw0))
    (fun s A B row hs hg' hr => ⟨hI s A B row hs.1 hg' (fun r e => by obtain ⟨q1, o, q2, q3⟩ := hr r e; exact ⟨by omega, o, q2, Obj.not_cells_of_walk q3⟩), (grownBy_keeps hg' (fun r e => (hr r e).2) hs.2.1 rfl).trans hs.2.1, (grownBy_keeps hg' (fun r e => (hr r e).2) hs.2.2 rfl).trans hs.2.2⟩)
    ?_ ⟨by rw [← hW1]; exact hI.alloc _ (hI.alloc _ h0), hL1, hK1⟩).mono ?_
  · rintro pre x W ⟨hi, hl, hk⟩ hlen hc
    have hlt : w.heap.size + 1 < W.heap.size := (Array.getElem?_eq_some_iff.1 hl).1
    have hy := run_yield (P := P) (args := encs x) hl (by rw [hrec]; exact hps x)
    rw [hrec] at hy
    refine ⟨fn, _, assign, body, hy, roundIn_of_wpIn hfn (hassign _ pre x W _ hi hc (fun a' W' hkp hbl hi' hax => ?_))⟩
    have hl' : W'.heap[w.heap.size + 1]? = some (.loop (rec .ready none)) := hkp.same _ _ (by omega) hl rfl
    have hk' : W'.heap[w.heap.size]? = some (.deferred (some [])) := hkp.same _ _ (Nat.le_refl _) hk rfl
    have hlt' : w.heap.size + 1 < W'.heap.size := (Array.getElem?_eq_some_iff.1 hl').1
    refine ⟨_, run_beginRound hl' (by rw [hrec]), ?_⟩
    obtain ⟨V, hV⟩ : ∃ V, V = W'.putObj (w.heap.size + 1) (.loop { rec .ready none with state := .busy }) := ⟨_, rfl⟩
    have hl2 : V.heap[w.heap.size + 1]? = some (.loop { rec .ready none with state := .busy }) := by rw [hV]; exact World.putObj_heap_same hlt'
    have hk2 : V.heap[w.heap.size]? = some (.deferred (some [])) := by rw [hV]; exact (World.putObj_heap_other (by omega)).trans hk'
    have hVb : Below B0 W V := by rw [hV]; exact hbl.trans (below_putObj _ _ _ (by omega))
    have hVI : I pre V := by rw [hV]; exact hI.putObj _ hi' (by omega) hl' rfl
    have hVA : Ax x a' V := by rw [hV]; exact hAx x a' W' _ _ hax (by omega) ⟨_, hl', rfl⟩
    rw [← hV]
    refine wpIn_mono (hbody _ pre x a' V hVI hlen hVA) ?_
    rintro e a3 W3 hp
    cases e with
    | normal =>
      obtain ⟨hk3, hkp3, hi3⟩ := hp
      have hl3 := hk3.same _ _ (by omega) hl2 rfl
      have hr := run_endRound (P := P) none hl3
      refine ⟨_, _, hr, rfl, ⟨hI.putObj _ hi3 (by omega) hl3 rfl, ?_, (World.putObj_heap_other (by omega)).trans (hk3.same _ _ (Nat.le_refl _) hk2 rfl)⟩, (hVb.trans hkp3).trans (below_putObj _ _ _ (by omega))⟩
      rw [World.putObj_heap_same (Array.getElem?_eq_some_iff.1 hl3).1, hrec]; rfl
    | _ => exact hp.elim
  · rintro e W2 ⟨⟨v, rfl⟩, xs, hS, hi, hl, hk⟩
    exact ⟨none, _, by have := run_endLoop (P := P) hl (by rw [hrec]; simp); rw [hrec] at this; exact this, hdone _ xs _ (Nat.le_refl _) hS (hI.putObj _ hi (by omega) hl rfl) ((World.putObj_heap_other (by omega)).trans hk)⟩

end Go.Proofs.YthdjinicmnhgpaaGreatDoor

/-
All relations of a catalog, handed out one after the other: the program's All; the laws' Back.
-/
namespace Go.Proofs.YthdjinicmnhgpaaGreatDoor
open Go.RowKit Go.Shelf
attribute [local go_sem] Oper.semAt_some

def encA (q : RR) : Array Value := #[.agg #[.int .u32 q.r.oid, .int .u32 q.r.ver], .agg #[.int .u32 q.r.oid, .int .u32 q.r.ver, .string q.r.nm, .int .u8 q.r.id, .slice q.a q.r.cols.length q.c]]

theorem ext_grown {w w' : World} (h : Ext w w') : w.grownBy w' none := ⟨h.os, h.tape, h.output, h.size, fun k hk _ => h.block k hk⟩

set_option maxRecDepth 100000 in
set_option maxHeartbeats 4000000 in
theorem all1_in (F : Fence) (n : Nat) (hFe : F = Fence.wide) (hF : F.fn 53) (hOF : F.fn 48) (hro : F.round = none) (hn : 1 ≤ n) (l Bs : Nat) (w0 : World) (N g : Nat) (c : Value) (ps : List RR) (hc : Hid (Ca w0 N g c ps))
    (J : List RR → World → Prop) (W0 : World) (hJ : Hid (AbidesFrom W0.heap.size J))
    (hY : Hid (∀ pre x W, J pre W → pre.length < ps.length → x.in W → x.r.cols.length ≤ 1000 → YieldAt F (n - 1) Tryz.prog l (encA x) W fun e W' => e = .returned (.bool true) ∧ J (pre ++ [x]) W' ∧ Below w0.heap.size W W'))
    (hE : Hid (Ext w0 W0)) (hBs : W0.cell? ⟨Bs, 0, none⟩ = some (.pointer (some ⟨g, 0, none⟩))) (h0 : Hid (J [] W0)) :
    CallsIn F n Tryz.prog 53 #[.func (.yield l) #[] #[], .pointer (some ⟨Bs, 0, none⟩)] W0 fun e W' => (∃ v, e = .returned v) ∧ ∃ ys, ys.map RR.r = ps.map RR.r ∧ J ys W' := by
  obtain ⟨a, cap, rfl⟩ := hc.out.shape
  have HOW := Hid.mk' (fun m (p : RR) (hp : p ∈ ps) W (h : Ext w0 W) => (show CallsIn F m Tryz.prog 48 #[p.agg] W _ from by rw [hFe]; exact callsIn_wide.2 (pown_any p W ((hc.out.sl p hp).ext h) (by have := hc.out.n16 hp; omega))))
  have hB0 := hBs
  have g0 := (hc.out.ptr.ext hE.out).cell
  have z0 := (hc.out.ptr.ext hE.out).lt
  have HL := Hid.mk' hc.out.rl.row
  have hn64 := hc.out.n64
  have H16 := Hid.mk' (fun p hp => hc.out.n16 (p := p) hp)
  have mixed : Tryz.prog.follows .mixedOrders = true := by kernel_rfl
  clear hFe hc hBs
  refine callsIn_of_wp Tryz.func53 rfl hF ?_ hro
  simp only [Tryz.ntmps53, List.size_toArray, List.length_cons, List.length_nil, Nat.reduceAdd, Nat.reduceSub, Array.replicate_succ, Array.replicate_zero, List.push_toArray, List.append_toArray, List.nil_append, List.cons_append]
  gi_wp2
  clear hB0 g0 z0
  gi_loopw [10] (fun i wr => ∃ (k : Nat) (ys : List RR), k ≤ ps.length ∧ i = .int .i64 k ∧ Hid (ys.map RR.r = (ps.map RR.r).take k) ∧ Hid (J ys wr) ∧ Hid (Ext w0 wr)) (fun i _ => ps.length - (intOf i).toNat)
  case atStart => exact ⟨0, [], Nat.zero_le _, rfl, Hid.mk' rfl, h0, hE⟩
  case round =>
    obtain ⟨k, ys, hk, rfl, hys, hJs, hEw⟩ := hrel
    by_cases hlt : k < ps.length
    · obtain ⟨b, o, rfl, hb, hx⟩ := HL.out.at_ (i := k) (by simpa using hlt)
      obtain ⟨f0, f1, f2, f3, f4⟩ := RR.at_ hlt hx hb hEw.out
      have hbw : b < wr.heap.size := Nat.lt_of_lt_of_le hb hEw.out.size
      have hpm : ps[k] ∈ ps := List.getElem_mem hlt
      have HOWp := Hid.mk' (fun m W (h : Ext w0 W) => HOW.out m ps[k] hpm W h)
      have HN := Hid.mk' (H16.out _ hpm)
      have HLEN : Hid (ys.length < ps.length) := Hid.mk' (by have := congrArg List.length hys.out; simp at this; omega)
      have HT : Hid ((ps.map RR.r).take (k + 1) = (ps.map RR.r).take k ++ [ps[k].r]) := Hid.mk' (by rw [List.take_succ_eq_append_getElem (by simpa using hlt), List.getElem_map])
      obtain ⟨p, hp⟩ : ∃ p, p = ps[k] := ⟨_, rfl⟩
      rw [← hp] at f0 f1 f2 f3 f4 HOWp HN HT
      unfold RR.agg at HOWp
      clear hx hp hpm
      gi_wp2
      have HW1 : Hid (Ext wr (wr.alloc (.cells #[.int .u32 p.r.oid, .int .u32 p.r.ver, .string p.r.nm, .int .u8 p.r.id, .slice p.a p.r.cols.length p.c] 73))) := Hid.mk' ((Ext.refl wr).alloc _)
      have hbx := (Blk.new wr #[.int .u32 p.r.oid, .int .u32 p.r.ver, .string p.r.nm, .int .u8 p.r.id, .slice p.a p.r.cols.length p.c] 73).cell
      gi_region_with_o (first
        | (gi_at_call 48; refine (HOWp.out _ _ (hEw.out.trans (by (repeat (with_reducible (first | exact Ext.refl _ | assumption | exact held_left (by assumption) | apply Ext.drewN | apply Ext.drew | apply Ext.alloc | (refine Ext.setCell ?_ (by first | (simp; done) | (simp; omega) | omega) _) | (refine Ext.trans ?_ (by assumption)) | (refine Ext.trans ?_ (held_left (by assumption))))))))).mono ?_; rintro e w5 ⟨⟨r', a', c'⟩, rfl, hqr, hqo, hb5⟩; simp only at hqr; subst hqr; have HX5 := Hid.mk' (show Ext wr w5 by (repeat (with_reducible (first | exact Ext.refl _ | assumption | exact held_left (by assumption) | apply Ext.drewN | apply Ext.drew | apply Ext.alloc | (refine Ext.setCell ?_ (by first | (simp; done) | (simp; omega) | omega) _) | (refine Ext.trans ?_ (by assumption)) | (refine Ext.trans ?_ (held_left (by assumption))))))); have HQI := Hid.mk' (RR.owned.in hqo); have hbx5 := ((Blk.new wr #[.int .u32 p.r.oid, .int .u32 p.r.ver, .string p.r.nm, .int .u8 p.r.id, .slice p.a p.r.cols.length p.c] 73).ext (show Ext (wr.alloc (.cells #[.int .u32 p.r.oid, .int .u32 p.r.ver, .string p.r.nm, .int .u8 p.r.id, .slice p.a p.r.cols.length p.c] 73)) w5 by (repeat (with_reducible (first | exact Ext.refl _ | assumption | exact held_left (by assumption) | apply Ext.drewN | apply Ext.drew | apply Ext.alloc | (refine Ext.setCell ?_ (by first | (simp; done) | (simp; omega) | omega) _) | (refine Ext.trans ?_ (by assumption)) | (refine Ext.trans ?_ (held_left (by assumption)))))))).cell; obtain ⟨fn, tmps, assign, body, hy, hR⟩ := hY.out ys ⟨p.r, a', c'⟩ w5 (hJ.out _ _ _ none hJs.out (ext_grown HX5.out) (by simp)) HLEN.out HQI.out (by have := HN.out; simp only; omega); simp only [encA] at hy; clear hqo hb5; try simp only)
        | (refine hR.mono ?_; rintro e W3 ⟨rfl, hJ3, hk3⟩))
      all_goals
        gi_wp2
        go_roundw
        case rel => exact ⟨k + 1, _, by omega, by go_num, Hid.mk' (by rw [List.map_append, hys.out, HT.out]; rfl), Hid.mk' hJ3, Hid.mk' (Below.trans (hEw.out.trans HX5.out) hk3)⟩
        case measure => simp [intOf]; omega
    · obtain rfl : k = ps.length := by omega
      have hys2 := hys.out
      rw [show ps.length = (ps.map RR.r).length by simp, List.take_length] at hys2
      gi_wp2
      go_end0
      exact ⟨⟨_, rfl⟩, ys, hys2, hJs.out⟩

theorem all_told (F : Fence) (n : Nat) (hFe : F = Fence.wide) (hF : F.fn 53) (hOF : F.fn 48) (hro : F.round = none) (hn : 1 ≤ n) (Bs : Nat) (w0 w : World) (N g : Nat) (c : Value) (ps : List RR) (hc : Ca w0 N g c ps) (hE : Ext w0 w) (hBs : w.cell? ⟨Bs, 0, none⟩ = some (.pointer (some ⟨g, 0, none⟩))) (hBz : Bs < w.heap.size) :
    SeqTold F n Tryz.prog 53 #[.pointer (some ⟨Bs, 0, none⟩)] encA (fun x W => x.in W ∧ x.r.cols.length ≤ 1000) (fun ys => ys.map RR.r = ps.map RR.r) ps.length w0.heap.size w := fun l J W hW hJ hY h0 =>
  all1_in F n hFe hF hOF hro hn l Bs w0 N g c ps hc J W hJ (fun pre x W1 hj hn h1 h2 => hY pre x W1 hj hn ⟨h1, h2⟩) (Below.trans hE (hW.mono hE.size)) ((hW.cell (p := ⟨Bs, 0, none⟩) hBz).trans hBs) h0

set_option maxHeartbeats 1000000 in
theorem all_in (F : Fence) (n : Nat) (hF : F.fn 30) (hro : F.round = none) (g : Nat) (w : World) :
    CallsIn F n Tryz.prog 30 #[.pointer (some ⟨g, 0, none⟩)] w fun e w' => e = .returned (.func (.func 53) #[] #[.pointer (some ⟨w.heap.size, 0, none⟩)]) ∧ w' = w.alloc (.cells #[.pointer (some ⟨g, 0, none⟩)] 27) := by
  refine callsIn_of_wp Tryz.func30 rfl hF ?_ hro
  simp only [Tryz.ntmps30, List.size_toArray, List.length_cons, List.length_nil, Nat.reduceAdd, Nat.reduceSub, Array.replicate_succ, Array.replicate_zero, List.push_toArray, List.append_toArray, List.nil_append, List.cons_append]
  gi_wp2
  go_ret
  exact ⟨rfl, rfl⟩

end Go.Proofs.YthdjinicmnhgpaaGreatDoor

/-
The laws' Back of a relation.
-/
namespace Go.Proofs.YthdjinicmnhgpaaGreatDoor
open Go.RowKit

theorem Tryz.infoRCol : (Tryz.prog.info? 117).map (fun i => (i.zero, i.size, i.bytes)) = some (some (.agg #[.string ByteArray.empty, .int .u8 0, .bool false]), 3, 24) := by kernel_rfl

set_option maxRecDepth 100000 in set_option maxHeartbeats 1600000 in
theorem back8_any (oid ver : Int) (nm : ByteArray) (id : Int) (cols : List Col) (a : Option Addr) (cap : Nat) (w : World) (hl : Sl w (.slice a cols.length cap) 3 (cols.map Col.cells)) (hlen : cols.length ≤ 1000) :
    Calls Tryz.prog 31 #[.agg #[.int .u32 oid, .int .u32 ver, .string nm, .int .u8 id, .slice a cols.length cap]] w fun e w' => ∃ a' cap', e = .returned (.agg #[.int .u32 oid, .int .u32 ver, .string nm, .int .u8 id, .slice a' cols.length cap']) ∧ cols.length ≤ cap' ∧ w'.ownsRow w.heap.size 117 3 (.slice a' cols.length cap') cols.length (cols.map Col.cells).flatten ∧ Ext w w' := by
  have HL := Hid.mk' hl
  clear hl
  obtain ⟨i0, hi, hz0, hz1, hz2⟩ := info_parts Tryz.infoRCol
  go_enter Tryz.func31, Tryz.ntmps31
  go_wp2
  go_loopw [4] (fun i wr => ∃ (k : Nat) (v : Value), k ≤ cols.length ∧ i = .int .i64 k ∧ Hid (wr.ownsRow (w.heap.size + 3) 117 3 v k ((cols.map Col.cells).take k).flatten) ∧ Blk wr w.heap.size #[.int .u32 oid, .int .u32 ver, .string nm, .int .u8 id, .slice a cols.length cap] 73 ∧ Blk wr (w.heap.size + 1) #[.int .u32 0, .int .u32 0, .string ⟨#[]⟩, .int .u8 0, .slice none 0 0] 59 ∧ Blk wr (w.heap.size + 1 + 1) #[.int .u32 oid, .int .u32 ver, .string nm, .int .u8 id, v] 59 ∧ Hid (Ext w wr)) (fun i _ => cols.length - (intOf i).toNat)
  case atStart => exact ⟨0, .slice none 0 0, Nat.zero_le _, rfl, World.ownsRow_nil _ _ _ _, ((Blk.new _ _ _).alloc _).alloc _, (Blk.new' _ _ (by simp)).alloc _, Blk.new' _ _ (by simp), Hid.mk' (by (repeat (with_reducible (first | exact Ext.refl _ | assumption | exact held_left (by assumption) | apply Ext.drewN | apply Ext.drew | apply Ext.alloc | (refine Ext.setCell ?_ (by first | (simp; done) | (simp; omega) | omega) _) | (refine Ext.trans ?_ (by assumption)) | (refine Ext.trans ?_ (held_left (by assumption)))))))⟩
  case round =>
    obtain ⟨k, v, hk, rfl, hown, hB0, hB1, hB2, hE⟩ := hrel
    by_cases hlt : k < cols.length
    · obtain ⟨b, o, rfl, hb, hc⟩ := HL.out.at_ (i := k) (by simpa using hlt)
      obtain ⟨f0, f1, f2⟩ := Col.at_ hlt hc hb hE.out
      have hT := Hid.mk' (flat_snoc (f := Col.cells) hlt)
      obtain ⟨c, hcc⟩ : ∃ c, c = cols[k] := ⟨_, rfl⟩
      rw [← hcc] at f0 f1 f2 hT
      have hbw : b < wr.heap.size := Nat.lt_of_lt_of_le hb hE.out.size
      have HC := Hid.mk' hcc
      clear hcc hc
      have g0 := hB0.cell
      have g2 := hB2.cell
      have z0 := hB0.lt
      have z1 := hB1.lt
      have z2 := hB2.lt
      have HB0 := Hid.mk' hB0
      have HB1 := Hid.mk' hB1
      have HB2 := Hid.mk' hB2
      clear hB0 hB1 hB2
      go_wp2
      refine wp_region_head 22 (fun w' => Ext (wr) w' ∧ (∀ b o, b < (wr).heap.size → w'.cell? ⟨b, o, none⟩ = (wr).cell? ⟨b, o, none⟩) ∧ (∀ b o, b < (wr).heap.size → w'.frozen? ⟨b, o, none⟩ = (wr).frozen? ⟨b, o, none⟩)) (by kernel_rfl) (by decide) ?_
      have hA0 : Hid ((fun w' => Ext (wr) w' ∧ (∀ b o, b < (wr).heap.size → w'.cell? ⟨b, o, none⟩ = (wr).cell? ⟨b, o, none⟩) ∧ (∀ b o, b < (wr).heap.size → w'.frozen? ⟨b, o, none⟩ = (wr).frozen? ⟨b, o, none⟩)) wr.drew) := held_of (by (repeat (with_reducible (first | exact Ext.refl _ | assumption | exact held_left (by assumption) | apply Ext.drewN | apply Ext.drew | apply Ext.alloc | (refine Ext.setCell ?_ (by first | (simp; done) | (simp; omega) | omega) _) | (refine Ext.trans ?_ (by assumption)) | (refine Ext.trans ?_ (held_left (by assumption)))))))
      (refine wpHd_take (i := 0) (v := ?_) rfl (by kernel_rfl) (by kernel_rfl) (by kernel_rfl) (fun _ _ _ h => h) (Or.inl ⟨by rfl, ?_⟩) hA0.out ?_; rotate_left 1; · (intro w' hS'; (obtain ⟨hEs', hcs', hfs'⟩ := hS'); go_simp; try with_reducible rfl))
      (refine wpHd_take (i := 1) (v := ?_) rfl (by kernel_rfl) (by kernel_rfl) (by kernel_rfl) (fun _ _ _ h => h) (Or.inl ⟨by rfl, ?_⟩) hA0.out ?_; rotate_left 1; · (intro w' hS'; (obtain ⟨hEs', hcs', hfs'⟩ := hS'); go_simp; try with_reducible rfl))
      (refine wpHd_take (i := 2) (v := ?_) rfl (by kernel_rfl) (by kernel_rfl) (by kernel_rfl) (fun _ _ _ h => h) (Or.inl ⟨by rfl, ?_⟩) hA0.out ?_; rotate_left 1; · (intro w' hS'; (obtain ⟨hEs', hcs', hfs'⟩ := hS'); go_simp; try with_reducible rfl))
      (refine wpHd_take (i := 3) (v := ?_) rfl (by kernel_rfl) (by kernel_rfl) (by kernel_rfl) (fun _ _ _ h => h) (Or.inl ⟨by rfl, ?_⟩) hA0.out ?_; rotate_left 1; · (intro w' hS'; (obtain ⟨hEs', hcs', hfs'⟩ := hS'); go_simp; try with_reducible rfl))
      (refine wpHd_take (i := 4) (v := ?_) rfl (by kernel_rfl) (by kernel_rfl) (by kernel_rfl) (fun _ _ _ h => h) (Or.inl ⟨by rfl, ?_⟩) hA0.out ?_; rotate_left 1; · (intro w' hS'; (obtain ⟨hEs', hcs', hfs'⟩ := hS'); go_simp; try with_reducible rfl))
      (refine wpHd_take (i := 5) (v := ?_) rfl (by kernel_rfl) (by kernel_rfl) (by kernel_rfl) (fun _ _ _ h => h) (Or.inl ⟨by rfl, ?_⟩) hA0.out ?_; rotate_left 1; · (intro w' hS'; (obtain ⟨hEs', hcs', hfs'⟩ := hS'); go_simp; try with_reducible rfl))
      (refine wpHd_take (i := 6) (v := ?_) rfl (by kernel_rfl) (by kernel_rfl) (by kernel_rfl) (fun _ _ _ h => h) (Or.inl ⟨by rfl, ?_⟩) hA0.out ?_; rotate_left 1; · (intro w' hS'; (obtain ⟨hEs', hcs', hfs'⟩ := hS'); go_simp; try with_reducible rfl))
      (refine wpHd_take (i := 7) (v := ?_) rfl (by kernel_rfl) (by kernel_rfl) (by kernel_rfl) (fun _ _ _ h => h) (Or.inl ⟨by rfl, ?_⟩) hA0.out ?_; rotate_left 1; · (intro w' hS'; (obtain ⟨hEs', hcs', hfs'⟩ := hS'); go_simp; try with_reducible rfl))
      (refine wpHd_take (i := 8) (v := ?_) rfl (by kernel_rfl) (by kernel_rfl) (by kernel_rfl) (fun _ _ _ h => h) (Or.inl ⟨by rfl, ?_⟩) hA0.out ?_; rotate_left 1; · (intro w' hS'; (obtain ⟨hEs', hcs', hfs'⟩ := hS'); go_simp; try with_reducible rfl))
      (refine wpHd_take (i := 9) (v := ?_) rfl (by kernel_rfl) (by kernel_rfl) (by kernel_rfl) (fun _ _ _ h => h) (Or.inl ⟨by rfl, ?_⟩) hA0.out ?_; rotate_left 1; · (intro w' hS'; (obtain ⟨hEs', hcs', hfs'⟩ := hS'); go_simp; try with_reducible rfl))
      (refine wpHd_take (i := 10) (v := ?_) rfl (by kernel_rfl) (by kernel_rfl) (by kernel_rfl) (fun _ _ _ h => h) (Or.inl ⟨by rfl, ?_⟩) hA0.out ?_; rotate_left 1; · (intro w' hS'; (obtain ⟨hEs', hcs', hfs'⟩ := hS'); go_simp; try with_reducible rfl))
      (refine wpHd_take (i := 11) (v := ?_) rfl (by kernel_rfl) (by kernel_rfl) (by kernel_rfl) (fun _ _ _ h => h) (Or.inl ⟨by rfl, ?_⟩) hA0.out ?_; rotate_left 1; · (intro w' hS'; (obtain ⟨hEs', hcs', hfs'⟩ := hS'); go_simp; try with_reducible rfl))
      (refine wpHd_take (i := 12) (v := ?_) rfl (by kernel_rfl) (by kernel_rfl) (by kernel_rfl) (fun _ _ _ h => h) (Or.inl ⟨by rfl, ?_⟩) hA0.out ?_; rotate_left 1; · (intro w' hS'; (obtain ⟨hEs', hcs', hfs'⟩ := hS'); go_simp; try with_reducible rfl))
      (refine wpHd_take (i := 13) (v := ?_) rfl (by kernel_rfl) (by kernel_rfl) (by kernel_rfl) (fun _ _ _ h => h) (Or.inl ⟨by rfl, ?_⟩) hA0.out ?_; rotate_left 1; · (intro w' hS'; (obtain ⟨hEs', hcs', hfs'⟩ := hS'); go_simp; try with_reducible rfl))
      (refine wpHd_take (i := 14) (v := ?_) rfl (by kernel_rfl) (by kernel_rfl) (by kernel_rfl) (fun _ _ _ h => h) (Or.inl ⟨by rfl, ?_⟩) hA0.out ?_; rotate_left 1; · (intro w' hS'; (obtain ⟨hEs', hcs', hfs'⟩ := hS'); go_simp; try with_reducible rfl))
      (refine wpHd_take (i := 15) (v := ?_) rfl (by kernel_rfl) (by kernel_rfl) (by kernel_rfl) (fun _ _ _ h => h) (Or.inl ⟨by rfl, ?_⟩) hA0.out ?_; rotate_left 1; · (intro w' hS'; (obtain ⟨hEs', hcs', hfs'⟩ := hS'); go_simp; try with_reducible rfl))
      (refine wpHd_take (i := 16) (v := ?_) rfl (by kernel_rfl) (by kernel_rfl) (by kernel_rfl) (fun _ _ _ h => h) (Or.inl ⟨by rfl, ?_⟩) hA0.out ?_; rotate_left 1; · (intro w' hS'; (obtain ⟨hEs', hcs', hfs'⟩ := hS'); go_simp; try with_reducible rfl))
      (refine wpHd_take (i := 17) (v := ?_) rfl (by kernel_rfl) (by kernel_rfl) (by kernel_rfl) (fun _ _ _ h => h) (Or.inl ⟨by rfl, ?_⟩) hA0.out ?_; rotate_left 1; · (intro w' hS'; (obtain ⟨hEs', hcs', hfs'⟩ := hS'); go_simp; try with_reducible rfl))
      (refine wpHd_take (i := 18) (v := ?_) rfl (by kernel_rfl) (by kernel_rfl) (by kernel_rfl) (fun _ _ _ h => h) (Or.inl ⟨by rfl, ?_⟩) hA0.out ?_; rotate_left 1; · (intro w' hS'; (obtain ⟨hEs', hcs', hfs'⟩ := hS'); go_simp; try with_reducible rfl))
      (refine wpHd_take (i := 19) (v := ?_) rfl (by kernel_rfl) (by kernel_rfl) (by kernel_rfl) (fun _ _ _ h => h) (Or.inl ⟨by rfl, ?_⟩) hA0.out ?_; rotate_left 1; · (intro w' hS'; (obtain ⟨hEs', hcs', hfs'⟩ := hS'); go_simp; try with_reducible rfl))
      (refine wpHd_take (i := 20) (v := ?_) rfl (by kernel_rfl) (by kernel_rfl) (by kernel_rfl) (fun _ _ _ h => h) (Or.inl ⟨by rfl, ?_⟩) hA0.out ?_; rotate_left 1; · (intro w' hS'; (obtain ⟨hEs', hcs', hfs'⟩ := hS'); go_simp; try with_reducible rfl))
      refine wpHd_one (i := 21) rfl rfl (by kernel_rfl) (fun K hK => ?_)
      go_simp
      refine hK.out _ _ (held_of (by (repeat (with_reducible (first | exact Ext.refl _ | assumption | exact held_left (by assumption) | apply Ext.drewN | apply Ext.drew | apply Ext.alloc | (refine Ext.setCell ?_ (by first | (simp; done) | (simp; omega) | omega) _) | (refine Ext.trans ?_ (by assumption)) | (refine Ext.trans ?_ (held_left (by assumption)))))))) (fun hA => ?_)
      clear hK K hA hA0
      refine wpHd_tail (by kernel_rfl) ?_
      simp only [List.drop_succ_cons, List.drop_zero]
      have hob := owns_ne hown.out (show w.heap.size + 1 + 1 < w.heap.size + 3 by omega)
      go_wp2_with (at_builtin; refine wpList_append_lies _ rfl _ _ 57 rfl (w.heap.size + 3) 117 i0 _ 3 24 Tryz.underlying57 hi hz0 hz1 hz2 rfl (by decide) _ _ _ rfl (owns_ext hown.out (by (repeat (with_reducible (first | exact Ext.refl _ | assumption | exact held_left (by assumption) | apply Ext.drewN | apply Ext.drew | apply Ext.alloc | (refine Ext.setCell ?_ (by first | (simp; done) | (simp; omega) | omega) _) | (refine Ext.trans ?_ (by assumption)) | (refine Ext.trans ?_ (held_left (by assumption)))))))) ⟨_, 0, none⟩ 1 1 c.cells rfl rfl ?c1 ?c2 (by decide) ?c3 ?c4 ?c5 _ rfl ?_)
      case c1 => exact cells_new _ #[.string c.nm, .int .u8 c.ty, .bool c.key] _
      case c2 => intro u hu; simp [Col.cells] at hu; rcases hu with rfl | rfl | rfl <;> rfl
      case c3 => unfold maxLen; omega
      case c4 => omega
      case c5 => simp; omega
      intro g' cap' w2 hown' hgrow _ _
      have hE1 : Ext wr (wr.drew.alloc (.cells #[.string c.nm, .int .u8 c.ty, .bool c.key] 117)) := by (repeat (with_reducible (first | exact Ext.refl _ | assumption | exact held_left (by assumption) | apply Ext.drewN | apply Ext.drew | apply Ext.alloc | (refine Ext.setCell ?_ (by first | (simp; done) | (simp; omega) | omega) _) | (refine Ext.trans ?_ (by assumption)) | (refine Ext.trans ?_ (held_left (by assumption))))))
      have HE2 : Hid (Ext w w2) := Hid.mk' (Below.grown (hE.out.trans hE1) hgrow (hE.out.trans hE1).size (fun g hg => by have := (hown.out.lt g hg).1; omega))
      have hsz2 := hgrow.size
      have HB0' := Hid.mk' ((HB0.out.ext hE1).grown hgrow (owns_ne hown.out (by omega)))
      have HB1' := Hid.mk' ((HB1.out.ext hE1).grown hgrow (owns_ne hown.out (by omega)))
      have hB2' := (HB2.out.ext hE1).grown hgrow hob
      have g2' := hB2'.cell
      have g2f := hB2'.frozen
      have z2' := hB2'.lt
      have HB2' := Hid.mk' hB2'
      have HO := Hid.mk' hown'
      clear hB2' hown' hgrow hE1 hob
      go_wp2
      go_roundw
      case rel => exact ⟨k + 1, _, by omega, by go_num, Hid.mk' (by rw [hT.out]; exact owns_set (p := ⟨w.heap.size + 1 + 1, 4, none⟩) HO.out (by show w.heap.size + 1 + 1 < _; omega) _), HB0'.out.other _ _ (by show w.heap.size ≠ w.heap.size + 1 + 1; omega), HB1'.out.other _ _ (by show w.heap.size + 1 ≠ w.heap.size + 1 + 1; omega), HB2'.out.set 4 _, Hid.mk' (HE2.out.setCell (by simp; omega) _)⟩
      case measure => simp [intOf]; omega
    · have hkk : k = cols.length := by omega
      subst hkk
      rw [show cols.length = (cols.map Col.cells).length by simp, List.take_length] at hown
      rw [List.length_map] at hown
      obtain ⟨a', c', rfl⟩ := owns_shape hown.out
      have g0 := hB0.cell
      have z0 := hB0.lt
      have g1 := hB1.cell
      have g1f := hB1.frozen
      have g2 := hB2.cell
      have z1 := hB1.lt
      have z2 := hB2.lt
      clear hB0 hB1 hB2
      go_wp2
      simp [bodyPost, results, Tryz.results31, go_sem, *]
      refine ⟨_, _, ⟨rfl, rfl⟩, owns_cap hown.out, owns_base (base := w.heap.size + 3) ?_ (by omega), ?_⟩
      · have hown := hown.out
        repeat (with_reducible (first | exact hown | refine owns_set ?_ (by show w.heap.size + 1 < _; omega) _))
      · have hE := hE.out
        (repeat (with_reducible (first | exact Ext.refl _ | assumption | exact held_left (by assumption) | apply Ext.drewN | apply Ext.drew | apply Ext.alloc | (refine Ext.setCell ?_ (by first | (simp; done) | (simp; omega) | omega) _) | (refine Ext.trans ?_ (by assumption)) | (refine Ext.trans ?_ (held_left (by assumption))))))


def RR.rowned (N : Nat) (W : World) (q : RR) : Prop := W.ownsRow N 117 3 (.slice q.a q.r.cols.length q.c) q.r.cols.length (q.r.cols.map Col.cells).flatten
theorem RR.rowned.in {N : Nat} {W : World} {q : RR} (h : q.rowned N W) : q.in W := Sl.of_owns (base := N) (e := 117) (by rw [List.length_map]; exact h) (by intro xs hxs; simp at hxs; obtain ⟨_, _, rfl⟩ := hxs; rfl)
theorem RR.rowned.at_ {N : Nat} {W : World} {q : RR} (h : q.rowned N W) {b o : Nat} (e : q.a = some ⟨b, o, none⟩) : N ≤ b ∧ b < W.heap.size := h.lt b (by rw [e]; rfl)
theorem RR.rowned.ext {N : Nat} {W W' : World} {q : RR} (h : q.rowned N W) (he : Ext W W') : q.rowned N W' := owns_ext h he
theorem RR.rowned.mono {N M : Nat} {W : World} {q : RR} (h : q.rowned N W) (hm : M ≤ N) : q.rowned M W := owns_base h hm
theorem pback_own (p : RR) (w : World) (hp : p.in w) (hlen : p.r.cols.length ≤ 1000) :
    Calls Tryz.prog 31 #[p.agg] w fun e w' => ∃ q : RR, e = .returned q.agg ∧ q.r = p.r ∧ q.rowned w.heap.size w' ∧ Ext w w' := by
  obtain ⟨⟨oid, ver, nm, id, cols⟩, a, cap⟩ := p
  refine (back8_any oid ver nm id cols a cap w hp hlen).mono fun e w' h => ?_
  obtain ⟨a', c', h1, h2, h3, h4⟩ := h
  exact ⟨⟨⟨oid, ver, nm, id, cols⟩, a', c'⟩, h1, rfl, h3, h4⟩
theorem pback_any (p : RR) (w : World) (hp : p.in w) (hlen : p.r.cols.length ≤ 1000) :
    Calls Tryz.prog 31 #[p.agg] w fun e w' => ∃ q : RR, e = .returned q.agg ∧ q.r = p.r ∧ q.in w' ∧ (∀ b o, q.a = some ⟨b, o, none⟩ → w.heap.size ≤ b) ∧ Ext w w' := by
  obtain ⟨⟨oid, ver, nm, id, cols⟩, a, cap⟩ := p
  refine (back8_any oid ver nm id cols a cap w hp hlen).mono fun e w' h => ?_
  obtain ⟨a', c', h1, h2, h3, h4⟩ := h
  exact ⟨⟨⟨oid, ver, nm, id, cols⟩, a', c'⟩, h1, rfl, Sl.of_owns (base := w.heap.size) (e := 117) (by rw [List.length_map]; exact h3) (by intro xs hxs; simp at hxs; obtain ⟨_, _, rfl⟩ := hxs; rfl), fun b o e => (h3.lt b (by rw [show a' = some ⟨b, o, none⟩ from e]; rfl)).1, h4⟩

end Go.Proofs.YthdjinicmnhgpaaGreatDoor

/-
All relations of a catalog, as the document's: the laws' Back.
-/
namespace Go.Proofs.YthdjinicmnhgpaaGreatDoor
open Go.RowKit Go.Shelf
attribute [local go_sem] Oper.semAt_some

theorem run_equalIn_func_nil {P : Program} (w : World) (d : Nat) (t : TypeId) (f : Fn) (xs ys : Array Value) {p : Array TypeId} {r : Array TypeId} {v : Bool} (h : P.underlying t = some (.func p r v)) : (Op.equalIn (d + 1) t (.func f xs ys) .nilFunc).run P w = .ok false w := by
  simp [Op.equalIn, run_underlying h]
@[go_sem] theorem run_eql_func_nil {P : Program} (w : World) (t : TypeId) (f : Fn) (xs ys : Array Value) {p : Array TypeId} {r : Array TypeId} {v : Bool} (h : P.underlying t = some (.func p r v)) : (binOp .eql t (.func f xs ys) .nilFunc).run P w = .ok (.bool false) w := by
  have e : (Op.equal t (.func f xs ys) .nilFunc).run P w = .ok false w := by
    exact run_equalIn_func_nil w 9999 t f xs ys h
  simp [binOp, e]

theorem stepIn_append {F : Fence} {n : Nat} {P : Program} {ops : Array Oper} {o : Oper} {a : Act} {w : World} {K : Act → World → Prop} {Q : Exit → Act → World → Prop} {E : Prop} (hg : o.guard = none) (s x : Operand) (t : TypeId) (hop : o.op = Op.call { callee := Callee.builtin Builtin.append, args := #[s, x], argTypes := #[t, t] })
    (v u : Value) (hs : a.eval s = v) (hx : a.eval x = u) {v' : Value} {w' : World} (hrun : (Builtin.append_ #[t, t] o.type #[v, u]).run P w = .ok v' w') (hK : K (a.put o.dst v') w') : if Region.wanted o (yielded ops a.tmps) = true then Oper.wpIn F n P o a w K Q else E := by
  rw [if_pos (by simp [Region.wanted, hg])]
  unfold Oper.wpIn
  refine ⟨?_, ?_⟩
  · simp [Oper.about, hop, resolve, Target.leads, Sem.run_pure]
  · rw [Oper.semAt_plain F _ _ (by rw [hop]; intro c hc'; cases hc')]
    simp [execOp, hop, resolve, invoke, builtin, hs, hx, hrun, Result.andThen]
    exact hK

/-- Relations of the document of the call's own, in a row of its own. -/
structure BkR (W : World) (N : Nat) (rs : List Rl) (v : Value) (qs : List RR) : Prop where
  own : W.ownsRow N 59 5 v qs.length (qs.map RR.cells).flatten
  r : qs.map RR.r = rs
  sl : ∀ q ∈ qs, q.rowned N W
  ne : ∀ q ∈ qs, ∀ b o, q.a = some ⟨b, o, none⟩ → v.ownBlock ≠ some b
theorem BkR.nil (W : World) (N : Nat) : BkR W N [] (.slice none 0 0) [] := ⟨World.ownsRow_nil _ _ _ _, rfl, (fun q h => by cases h), (fun q h => by cases h)⟩
theorem BkR.ext {W W' : World} {N : Nat} {rs : List Rl} {qs : List RR} {v : Value} (h : BkR W N rs v qs) (he : Ext W W') : BkR W' N rs v qs := ⟨owns_ext h.own he, h.r, fun q hq => (h.sl q hq).ext he, h.ne⟩
theorem rowned_kp {S : Nat → Prop} {W W' : World} {N : Nat} {x : RR} (h2 : x.rowned N W) (hk1 : Kp S W W') (h3 : ∀ b o, x.a = some ⟨b, o, none⟩ → ¬ S b) : x.rowned N W' := by
  refine owns_kp h2 hk1 (fun b hb => ?_)
  obtain ⟨xr, xa, xc⟩ := x
  cases xa with
  | none => cases hb
  | some ad =>
    obtain ⟨b', o', sp⟩ := ad
    have hb' : b' = b := by simpa [Value.ownBlock] using hb
    subst hb'
    rcases h2.2 with ⟨hv, -⟩ | ⟨g, cap, cur, hv, -⟩
    · cases hv
    · simp only [Value.slice.injEq, Option.some.injEq, Addr.mk.injEq] at hv
      obtain ⟨⟨rfl, rfl, rfl⟩, -⟩ := hv
      exact h3 _ _ rfl
theorem BkR.kept {W W' : World} {N : Nat} {rs : List Rl} {qs : List RR} {v : Value} {row : Option Nat} (h : BkR W N rs v qs) (hg : W.grownBy W' row) (hr : ∀ r, row = some r → ∃ o : Obj, W.heap[r]? = some o ∧ o.isCells = false) : BkR W' N rs v qs :=
  ⟨owns_kept h.own hg hr, h.r, fun q hq => owns_kept (h.sl q hq) hg hr, h.ne⟩
theorem BkR.set {W : World} {N : Nat} {rs : List Rl} {qs : List RR} {v : Value} (h : BkR W N rs v qs) {p : Addr} (hp : p.block < N) (u : Value) : BkR (W.setCell p u) N rs v qs := ⟨owns_set h.own hp u, h.r, fun q hq => owns_set (h.sl q hq) hp u, h.ne⟩
theorem BkR.push {W W' : World} {N : Nat} {rs : List Rl} {qs : List RR} {v v' : Value} {q : RR} (h : BkR W N rs v qs) (hs : q.rowned N W) (hn : ∀ b o, q.a = some ⟨b, o, none⟩ → v.ownBlock ≠ some b)
    (hg : W.grownBy W' v.ownBlock) (hat : v'.ownBlock = v.ownBlock ∨ v'.ownBlock = some W.heap.size) (ho : W'.ownsRow N 59 5 v' (qs.length + 1) ((qs.map RR.cells).flatten ++ q.cells)) : BkR W' N (rs ++ [q.r]) v' (qs ++ [q]) := by
  have hall : ∀ x ∈ qs ++ [q], x.rowned N W ∧ ∀ b o, x.a = some ⟨b, o, none⟩ → v.ownBlock ≠ some b := fun x hx => by
    rcases List.mem_append.1 hx with hx | hx
    · exact ⟨h.sl x hx, h.ne x hx⟩
    · obtain rfl : x = q := by simpa using hx
      exact ⟨hs, hn⟩
  refine ⟨by simpa using ho, by rw [List.map_append, h.r]; rfl, fun x hx => rowned_kp (hall x hx).1 (Kp.of_grown hg) (hall x hx).2, fun x hx b o e => ?_⟩
  obtain ⟨h2, h3⟩ := hall x hx
  rcases hat with h4 | h4
  · rw [h4]; exact h3 b o e
  · rw [h4]; intro h5; injection h5 with h5
    have := (h2.at_ e).2; omega
theorem BkR.rl {W : World} {N : Nat} {rs : List Rl} {qs : List RR} {v : Value} (h : BkR W N rs v qs) : RL W v qs := ⟨Sl.of_owns (base := N) (e := 59) (by rw [List.length_map]; exact h.own) (RR.len qs), fun q hq => (h.sl q hq).in⟩

set_option maxRecDepth 100000 in
set_option maxHeartbeats 8000000 in
theorem back9_in (F : Fence) (n : Nat) (hFe : F = Fence.wide) (h1F : F.fn 53) (hAF : F.fn 30) (hOF : F.fn 48) (hBF : F.fn 31) (hDF : F.fn 12) (hro : F.round = none) (hn : 4 ≤ n) (N g : Nat) (c : Value) (ps : List RR) (w : World) (hc : Ca w N g c ps) :
    CallsIn F n Tryz.prog 12 #[.pointer (some ⟨g, 0, none⟩)] w fun e w' => ∃ a' c' qs, e = .returned (.tuple #[.slice a' qs.length c', .bool true]) ∧ BkR w' w.heap.size (ps.map RR.r) (.slice a' qs.length c') qs ∧ Ext w w' := by
  have h1 : 1 ≤ n := by omega
  have HC := Hid.mk' hc
  have HB8 := Hid.mk' (fun m (p : RR) W (h : p.in W) (hn : p.r.cols.length ≤ 1000) => (show CallsIn F m Tryz.prog 31 #[p.agg] W _ from by rw [hFe]; exact callsIn_wide.2 (pback_own p W h hn)))
  obtain ⟨i0, hi, hz0, hz1, hz2⟩ := info_parts Tryz.infoRRel
  have HFE := Hid.mk' hFe
  have mixed : Tryz.prog.follows .mixedOrders = true := by kernel_rfl
  have hfn : ∀ (W : World) (ys : Array Value), (binOp .eql 90 (.func (.func 53) #[] ys) .nilFunc).run Tryz.prog W = .ok (.bool false) W := fun W ys => run_eql_func_nil W _ _ _ _ (show Tryz.prog.underlying 90 = some (.func #[128] #[] false) by kernel_rfl)
  clear hc hFe
  refine callsIn_of_wp_marks Tryz.func12 rfl hDF ?_ hro
  simp only [Tryz.ntmps12, List.size_toArray, List.length_cons, List.length_nil, Nat.reduceAdd, Nat.reduceSub, Array.replicate_succ, Array.replicate_zero, List.push_toArray, List.append_toArray, List.nil_append, List.cons_append]
  gi_wp2_with (gi_at_call 30; refine (all_in F (n - 1) hAF hro _ _).mono ?_; rintro e w' ⟨rfl, rfl⟩)
  have hE4 : Ext w ((((w.alloc (.cells #[.slice none 0 0] 22)).alloc (.cells #[.bool false] 4)).alloc (.cells #[.slice none 0 0] 22)).alloc (.cells #[.pointer (some ⟨g, 0, none⟩)] 27)) := by (repeat (with_reducible (first | exact Ext.refl _ | assumption | exact held_left (by assumption) | apply Ext.drewN | apply Ext.drew | apply Ext.alloc | (refine Ext.setCell ?_ (by first | (simp; done) | (simp; omega) | omega) _) | (refine Ext.trans ?_ (by assumption)) | (refine Ext.trans ?_ (held_left (by assumption))))))
  have hB4 : Blk ((((w.alloc (.cells #[.slice none 0 0] 22)).alloc (.cells #[.bool false] 4)).alloc (.cells #[.slice none 0 0] 22)).alloc (.cells #[.pointer (some ⟨g, 0, none⟩)] 27)) (w.heap.size + 1 + 1 + 1) #[.pointer (some ⟨g, 0, none⟩)] 27 := Blk.new' _ _ (by simp)
  obtain ⟨W4, hW4⟩ : ∃ W4, W4 = ((((w.alloc (.cells #[.slice none 0 0] 22)).alloc (.cells #[.bool false] 4)).alloc (.cells #[.slice none 0 0] 22)).alloc (.cells #[.pointer (some ⟨g, 0, none⟩)] 27)) := ⟨_, rfl⟩
  have hz4 : W4.heap.size = w.heap.size + 1 + 1 + 1 + 1 := by rw [hW4]; simp
  have hR0 : Blk W4 w.heap.size #[.slice none 0 0] 22 := by rw [hW4]; exact (((Blk.new _ _ _).alloc _).alloc _).alloc _
  have hR1 : Blk W4 (w.heap.size + 1) #[.bool false] 4 := by rw [hW4]; exact ((Blk.new' _ _ (by simp)).alloc _).alloc _
  have hR2 : Blk W4 (w.heap.size + 1 + 1) #[.slice none 0 0] 22 := by rw [hW4]; exact (Blk.new' _ _ (by simp)).alloc _
  rw [← hW4] at hE4 hB4 ⊢
  have HE4 := Hid.mk' hE4
  clear hW4 hE4
  clear hfn
  refine wpIn_range_told hro h1 (gf := 53) (lb := #[.pointer (some ⟨w.heap.size + 1 + 1 + 1, 0, none⟩)]) rfl h1F (enters_of Tryz.func53 (by kernel_rfl) rfl)
    (all_told F (n - 1) HFE.out h1F hOF hro (by omega) (w.heap.size + 1 + 1 + 1) w W4 N g c ps HC.out HE4.out (hB4.cell 0) hB4.lt) (by omega) (Below.refl _ _) (fun _ => rfl)
    (fun pre W => (∃ a' c' qs, Blk W (w.heap.size + 1 + 1) #[.slice a' qs.length c'] 22 ∧ Hid (BkR W (w.heap.size + 1 + 1 + 1) (pre.map RR.r) (.slice a' qs.length c') qs)) ∧ Blk W w.heap.size #[.slice none 0 0] 22 ∧ Blk W (w.heap.size + 1) #[.bool false] 4 ∧ Hid (Below w.heap.size w W ∧ W4.heap.size ≤ W.heap.size)) ?hI
    ⟨⟨none, 0, [], hR2, Hid.mk' (BkR.nil _ _)⟩, hR0, hR1, Hid.mk' ⟨HE4.out, Nat.le_refl _⟩⟩
    (fun x a' W => ∃ X Y, a' = { tmps := #[.pointer (some ⟨g, 0, none⟩), undef, .pointer (some ⟨w.heap.size, 0, none⟩), .pointer (some ⟨w.heap.size + 1, 0, none⟩), .pointer (some ⟨w.heap.size + 1 + 1, 0, none⟩), .func (.func 53) #[] #[.pointer (some ⟨w.heap.size + 1 + 1 + 1, 0, none⟩)], .pointer (some ⟨X, 0, none⟩), .pointer (some ⟨Y, 0, none⟩), .pointer (some ⟨g, 0, none⟩), .bool false, .pointer (some ⟨g, 0, none⟩), .func (.func 53) #[] #[.pointer (some ⟨w.heap.size + 1 + 1 + 1, 0, none⟩)], .func (.func 53) #[] #[.pointer (some ⟨w.heap.size + 1 + 1 + 1, 0, none⟩)], .bool false, .func (.func 53) #[] #[.pointer (some ⟨w.heap.size + 1 + 1 + 1, 0, none⟩)], .agg #[.int .u32 x.r.oid, .int .u32 x.r.ver], .agg #[.int .u32 x.r.oid, .int .u32 x.r.ver, .string x.r.nm, .int .u8 x.r.id, .slice x.a x.r.cols.length x.c], undef, undef, undef, undef, undef, undef, undef, undef, undef, undef], defers := [] } ∧ W4.heap.size ≤ X ∧ W4.heap.size ≤ Y ∧ Blk W X #[.int .u32 x.r.oid, .int .u32 x.r.ver] 70 ∧ Blk W Y #[.int .u32 x.r.oid, .int .u32 x.r.ver, .string x.r.nm, .int .u8 x.r.id, .slice x.a x.r.cols.length x.c] 73 ∧ x.in W ∧ x.r.cols.length ≤ 1000)
    ?hAx ?assign ?body ?done
  case hI =>
    rintro s A B row ⟨⟨a', c', qs, q1, q2⟩, q3, q4, q5⟩ hg hr
    have hr2 : ∀ r, row = some r → ∃ o : Obj, A.heap[r]? = some o ∧ o.isCells = false := fun r e => (hr r e).2
    have hk : ∀ {b : Nat} {cs : Array Value} {t : TypeId}, Blk A b cs t → Blk B b cs t := fun {b cs t} hb => hb.kp (Kp.of_grown hg) (fun e => by
      obtain ⟨ob, ho, hn⟩ := hr2 b e
      rw [show A.heap[b]? = _ from hb] at ho; cases ho; simp [Obj.isCells] at hn)
    exact ⟨⟨a', c', qs, hk q1, Hid.mk' (q2.out.kept hg hr2)⟩, hk q3, hk q4, Hid.mk' ⟨q5.out.1.grown hg (by have := q5.out.2; omega) (fun k e => by have := (hr k e).1; omega), Nat.le_trans q5.out.2 hg.size⟩⟩
  case hAx =>
    rintro x a' W l o' ⟨X, Y, q1, q2, q3, q4, q5, q6, q7⟩ hl ⟨ob, hob, hnc⟩
    have hg := grownBy_putObj' W l o'
    have hk : ∀ {b : Nat} {cs : Array Value} {t : TypeId}, Blk W b cs t → Blk (W.putObj l o') b cs t := fun {b cs t} hb => hb.kp (Kp.of_grown hg) (fun e => by
      injection e with e
      subst e
      rw [show W.heap[l]? = _ from hb] at hob; cases hob; simp [Obj.isCells] at hnc)
    refine ⟨X, Y, q1, q2, q3, hk q4, hk q5, Sl.kp q6 (Kp.of_grown hg) (fun h0 b o e e2 => ?_), q7⟩
    injection e2 with e2
    subst e2
    obtain ⟨b', o2, e3, hb3, hc3⟩ := Sl.at_ q6 (i := 0) (List.length_pos_iff.2 h0)
    rw [e] at e3; cases e3
    have h5 := hc3 0 (by omega)
    unfold World.cell? at h5
    rw [show W.heap[l]? = some ob from hob] at h5
    cases hxx : x.r.cols with
    | nil => rw [hxx] at h0; exact h0 rfl
    | cons d ds =>
      rw [hxx] at h5
      cases ob <;> simp [Obj.isCells, Col.cells] at hnc h5
  case assign =>
    rintro l pre x W K ⟨⟨a', c', qs, q1, q2⟩, q3, q4, q5⟩ ⟨hx1, hx2⟩ hK
    have hzW := q5.out.2
    unfold encA
    rw [fold_two]
    gi_wp2
    have hEW : Ext W ((W.alloc (.cells #[.int .u32 x.r.oid, .int .u32 x.r.ver] 70)).alloc (.cells #[.int .u32 x.r.oid, .int .u32 x.r.ver, .string x.r.nm, .int .u8 x.r.id, .slice x.a x.r.cols.length x.c] 73)) := by (repeat (with_reducible (first | exact Ext.refl _ | assumption | exact held_left (by assumption) | apply Ext.drewN | apply Ext.drew | apply Ext.alloc | (refine Ext.setCell ?_ (by first | (simp; done) | (simp; omega) | omega) _) | (refine Ext.trans ?_ (by assumption)) | (refine Ext.trans ?_ (held_left (by assumption))))))
    exact hK _ _ (((KeepsOthers.alloc _ _).trans (KeepsOthers.alloc _ _)).from _) (hEW.mono (by omega)) ⟨⟨a', c', qs, q1.ext hEW, Hid.mk' (q2.out.ext hEW)⟩, q3.ext hEW, q4.ext hEW, Hid.mk' ⟨q5.out.1.trans (hEW.mono (by omega)), by simp; omega⟩⟩
      ⟨W.heap.size, W.heap.size + 1, rfl, hzW, by omega, (Blk.new _ _ _).alloc _, Blk.new' _ _ (by simp), hx1.ext hEW, hx2⟩
  case body =>
    rintro l pre x a' W ⟨⟨av, cv, qs, q1, q2⟩, q3, q4, q5⟩ hlen ⟨X, Y, rfl, hX, hY, hbX, hbY, hxi, hxn⟩
    have h11 : 1 ≤ n - 1 - 1 := by omega
    obtain ⟨⟨oid, ver, nm, id, cols⟩, a2, c2⟩ := x
    simp only at hbX hbY hxn ⊢
    have HX := Hid.mk' (fun m W' (h : Ext W W') => HB8.out m (⟨⟨oid, ver, nm, id, cols⟩, a2, c2⟩ : RR) W' (hxi.ext h) hxn)
    unfold RR.agg at HX
    have HQ1 := Hid.mk' q1
    have HQ3 := Hid.mk' q3
    have HQ4 := Hid.mk' q4
    have g1 := q1.cell
    have g1f := q1.frozen
    have g1z := q1.lt
    have gX := hbX.cell
    have gXz := hbX.lt
    have gY := hbY.cell
    have gYz := hbY.lt
    have hbYk := hbY
    clear hxi hbX hbY q1 q3 q4
    have hql : qs.length ≤ 64 := by
      have h1 := congrArg List.length q2.out.r
      have h2 := HC.out.n64
      simp only [List.length_map] at h1
      omega
    have hNB : Hid (∀ b, (Value.slice av qs.length cv).ownBlock = some b → w.heap.size + 1 + 1 + 1 ≤ b ∧ b < W.heap.size) := Hid.mk' (fun b hb => q2.out.own.lt b hb)
    have hz5 := q5.out.2
    clear hlen
    gi_wp2
    have HbY := Hid.mk' hbYk
    have HFIN : Hid (∀ (w5 w6 : World) a' c' a6 c6, Ext W w5 → RR.rowned W.heap.size w5 (⟨⟨oid, ver, nm, id, cols⟩, a', c'⟩ : RR) → w6.ownsRow (w.heap.size + 1 + 1 + 1) 59 5 (.slice a6 (qs.length + 1) c6) (qs.length + 1) ((qs.map RR.cells).flatten ++ RR.cells (⟨⟨oid, ver, nm, id, cols⟩, a', c'⟩ : RR)) →
        (w5.alloc (.cells #[.int .u32 oid, .int .u32 ver, .string nm, .int .u8 id, .slice a' cols.length c'] 59)).grownBy w6 (Value.slice av qs.length cv).ownBlock → ((Value.slice a6 (qs.length + 1) c6).ownBlock = (Value.slice av qs.length cv).ownBlock ∨ (Value.slice a6 (qs.length + 1) c6).ownBlock = some (w5.alloc (.cells #[.int .u32 oid, .int .u32 ver, .string nm, .int .u8 id, .slice a' cols.length c'] 59)).heap.size) → Blk w6 (w.heap.size + 1 + 1) #[.slice av qs.length cv] 22 →
        KeepsFrom W4.heap.size W (w6.setCell ⟨w.heap.size + 1 + 1, 0, none⟩ (.slice a6 (qs.length + 1) c6)) ∧ Below w.heap.size W (w6.setCell ⟨w.heap.size + 1 + 1, 0, none⟩ (.slice a6 (qs.length + 1) c6)) ∧
        (∃ a' c' qs', Blk (w6.setCell ⟨w.heap.size + 1 + 1, 0, none⟩ (.slice a6 (qs.length + 1) c6)) (w.heap.size + 1 + 1) #[.slice a' qs'.length c'] 22 ∧ Hid (BkR (w6.setCell ⟨w.heap.size + 1 + 1, 0, none⟩ (.slice a6 (qs.length + 1) c6)) (w.heap.size + 1 + 1 + 1) ((pre ++ [(⟨⟨oid, ver, nm, id, cols⟩, a2, c2⟩ : RR)]).map RR.r) (.slice a' qs'.length c') qs')) ∧ Blk (w6.setCell ⟨w.heap.size + 1 + 1, 0, none⟩ (.slice a6 (qs.length + 1) c6)) w.heap.size #[.slice none 0 0] 22 ∧ Blk (w6.setCell ⟨w.heap.size + 1 + 1, 0, none⟩ (.slice a6 (qs.length + 1) c6)) (w.heap.size + 1) #[.bool false] 4 ∧ Hid (Below w.heap.size w (w6.setCell ⟨w.heap.size + 1 + 1, 0, none⟩ (.slice a6 (qs.length + 1) c6)) ∧ W4.heap.size ≤ (w6.setCell ⟨w.heap.size + 1 + 1, 0, none⟩ (.slice a6 (qs.length + 1) c6)).heap.size)) := Hid.mk' (fun w5 w6 a' c' a6 c6 hx5 hqo ho6 hg6 hat6 hb6 => by
      have hEa := hx5.alloc (.cells #[.int .u32 oid, .int .u32 ver, .string nm, .int .u8 id, .slice a' cols.length c'] 59)
      have hk1 : Kp (fun k => (Value.slice av qs.length cv).ownBlock = some k) W w6 := (Kp.of_ext hEa).trans (Kp.of_grown hg6) (fun x hx _ => hx)
      have hk2 : Kp (fun k => (Value.slice av qs.length cv).ownBlock = some k ∨ k = w.heap.size + 1 + 1) W (w6.setCell ⟨w.heap.size + 1 + 1, 0, none⟩ (.slice a6 (qs.length + 1) c6)) :=
        (hk1.mono (T := fun k => (Value.slice av qs.length cv).ownBlock = some k ∨ k = w.heap.size + 1 + 1) (fun x hx _ => .inl hx)).trans (Kp.set (S := fun k => k = w.heap.size + 1 + 1) _ _ rfl) (fun x hx _ => .inr hx)
      have hpush := (q2.out.ext hEa).push (q := ⟨⟨oid, ver, nm, id, cols⟩, a', c'⟩) ((RR.rowned.ext hqo ((Ext.refl w5).alloc _)).mono (by omega)) (fun b o e h4 => by
        have h5 := (hNB.out b h4).2
        have h6 := (RR.rowned.at_ hqo e).1
        omega) hg6 hat6 ho6
      refine ⟨⟨hk2.size, fun k ob hk hob hnc => (hk2.block k (Array.getElem?_eq_some_iff.1 hob).1 (fun hs => ?_)).trans hob⟩, ⟨hk2.os, hk2.tape, hk2.output, hk2.size, fun k hk => hk2.block k (by omega) (fun hs => ?_)⟩, ⟨a6, c6, qs ++ [⟨⟨oid, ver, nm, id, cols⟩, a', c'⟩], ?_, Hid.mk' ?_⟩, ?_, ?_, Hid.mk' ⟨?_, Nat.le_trans hz5 hk2.size⟩⟩
      · rcases hs with hs | hs
        · rcases q2.out.own.2 with ⟨hv, -⟩ | ⟨gg, cap, cur, hv, -, hh, -⟩
          · rw [hv] at hs; cases hs
          · rw [hv] at hs
            have : gg = k := by simpa [Value.ownBlock] using hs
            subst this
            rw [hh] at hob; cases hob; simp [Obj.isCells] at hnc
        · omega
      · rcases hs with hs | hs
        · have := (hNB.out k hs).1; omega
        · omega
      · have := hb6.set 0 (.slice a6 (qs.length + 1) c6)
        simpa using this
      · have := hpush.set (p := ⟨w.heap.size + 1 + 1, 0, none⟩) (by show w.heap.size + 1 + 1 < _; omega) (.slice a6 (qs.length + 1) c6)
        simpa using this
      · exact HQ3.out.kp hk2 (fun hs => by rcases hs with hs | hs; · (have := (hNB.out _ hs).1; omega)
                                           · omega)
      · exact HQ4.out.kp hk2 (fun hs => by rcases hs with hs | hs; · (have := (hNB.out _ hs).1; omega)
                                           · omega)
      · exact Kp.ext q5.out.1 (fun x hs hx => by rcases hs with hs | hs; · (have := (hNB.out _ hs).1; omega)
                                                 · omega) hk2)
    refine wpIn_region_any mixed ?_
    change wpAnyIn _ _ _ _ _ _ _ _ _ (World.drew _)
    refine wpAnyIn_ready (rs := [0, 1]) (by kernel_rfl) (by simp) ?_
    refine AllReadyIn.cons rfl (fun K hK => ?_) ?_
    · skip
      (go_simp; refine hK _ _ ?_; clear hK K)
      refine wpAnyIn_ready (rs := [1]) (by kernel_rfl) (by simp) ?_
      refine AllReadyIn.cons rfl (fun K hK => ?_) ?_
      · skip
        (go_simp; refine hK _ _ ?_; clear hK K)
        refine wpAnyIn_ready (rs := [2]) (by kernel_rfl) (by simp) ?_
        refine AllReadyIn.cons rfl (fun K hK => ?_) ?_
        · skip
          (go_simp; gi_wp2_with (gi_at_call 31; refine (CallsIn.inRound l (HX.out _ _ (by (repeat (with_reducible (first | exact Ext.refl _ | assumption | exact held_left (by assumption) | apply Ext.drewN | apply Ext.drew | apply Ext.alloc | (refine Ext.setCell ?_ (by first | (simp; done) | (simp; omega) | omega) _) | (refine Ext.trans ?_ (by assumption)) | (refine Ext.trans ?_ (held_left (by assumption))))))))).mono ?_; rintro e w5 ⟨⟨r', a', c'⟩, rfl, hqr, hqo, hb5⟩; simp only at hqr; subst hqr; have HX5 := Hid.mk' (show Ext W w5 by (repeat (with_reducible (first | exact Ext.refl _ | assumption | exact held_left (by assumption) | apply Ext.drewN | apply Ext.drew | apply Ext.alloc | (refine Ext.setCell ?_ (by first | (simp; done) | (simp; omega) | omega) _) | (refine Ext.trans ?_ (by assumption)) | (refine Ext.trans ?_ (held_left (by assumption))))))); have HQO := Hid.mk' hqo; have g5 := (HQ1.out.ext HX5.out).cell; have z5 := (HQ1.out.ext HX5.out).lt; have gY5 := (HbY.out.ext HX5.out).cell; have zY5 := (HbY.out.ext HX5.out).lt; clear hqo hb5; try simp only))
          refine wpAnyIn_ready (rs := [3]) (by kernel_rfl) (by simp) ?_
          refine AllReadyIn.cons rfl (fun K hK => ?_) ?_
          · skip
            (go_simp; refine hK _ _ ?_; clear hK K)
            refine wpAnyIn_ready (rs := [4]) (by kernel_rfl) (by simp) ?_
            refine AllReadyIn.cons rfl (fun K hK => ?_) ?_
            · skip
              obtain ⟨v6, w6, hr6, ho6, hg6, -, hat6⟩ := run_append_own_at (P := Tryz.prog) (w5.alloc (.cells #[.int .u32 oid, .int .u32 ver, .string nm, .int .u8 id, .slice a' cols.length c'] 59)) (w.heap.size + 1 + 1 + 1) 22 22 59 i0 _ 5 56 Tryz.underlying22 hi hz0 hz1 hz2 rfl (by decide) (.slice av qs.length cv) qs.length _ (owns_ext q2.out.own (HX5.out.alloc _)) ⟨w5.heap.size, 0, none⟩ 1 1 (RR.cells ⟨⟨oid, ver, nm, id, cols⟩, a', c'⟩) rfl (cells_new _ #[.int .u32 oid, .int .u32 ver, .string nm, .int .u8 id, .slice a' cols.length c'] _) (by intro u hu; simp [RR.cells] at hu; rcases hu with rfl | rfl | rfl | rfl | rfl <;> rfl) (by unfold maxLen; omega) (by omega) (by have := HX5.out.size; simp; omega)
              obtain ⟨a6, c6, rfl⟩ := owns_shape ho6
              have HO6 := Hid.mk' ho6
              have HG6 := Hid.mk' hg6
              have HAT6 := Hid.mk' hat6
              have hb6 : Blk w6 (w.heap.size + 1 + 1) #[.slice av qs.length cv] 22 := (hg6.block _ (by have := HX5.out.size; simp; omega) (fun e => by have := (hNB.out _ e.symm).1; omega)).trans ((HQ1.out.ext HX5.out).alloc _)
              have HB6 := Hid.mk' hb6
              have g6 := hb6.cell
              have g6f := hb6.frozen
              have g6z := hb6.lt
              clear ho6 hg6 hat6 hb6
              (refine stepIn_append rfl _ _ 22 rfl (.slice av qs.length cv) (.slice (some ⟨w5.heap.size, 0, none⟩) 1 1) (by simp [Act.eval]) (by simp [Act.eval]) hr6 ?_; refine hK _ _ ?_; clear hK K)
              refine wpAnyIn_ready (rs := [5]) (by kernel_rfl) (by simp) ?_
              refine AllReadyIn.cons rfl (fun K hK => ?_) ?_
              · skip
                (go_simp; refine hK _ _ ?_; clear hK K)
                refine wpAnyIn_done (by kernel_rfl) ?_ _
                gi_wp2
                exact HFIN.out w5 w6 a' c' a6 c6 HX5.out HQO.out HO6.out HG6.out HAT6.out HB6.out
              exact AllReadyIn.nil
            exact AllReadyIn.nil
          exact AllReadyIn.nil
        exact AllReadyIn.nil
      exact AllReadyIn.nil
    refine AllReadyIn.cons rfl (fun K hK => ?_) ?_
    · skip
      (go_simp; refine hK _ _ ?_; clear hK K)
      refine wpAnyIn_ready (rs := [0, 2]) (by kernel_rfl) (by simp) ?_
      refine AllReadyIn.cons rfl (fun K hK => ?_) ?_
      · skip
        (go_simp; refine hK _ _ ?_; clear hK K)
        refine wpAnyIn_ready (rs := [2]) (by kernel_rfl) (by simp) ?_
        refine AllReadyIn.cons rfl (fun K hK => ?_) ?_
        · skip
          (go_simp; gi_wp2_with (gi_at_call 31; refine (CallsIn.inRound l (HX.out _ _ (by (repeat (with_reducible (first | exact Ext.refl _ | assumption | exact held_left (by assumption) | apply Ext.drewN | apply Ext.drew | apply Ext.alloc | (refine Ext.setCell ?_ (by first | (simp; done) | (simp; omega) | omega) _) | (refine Ext.trans ?_ (by assumption)) | (refine Ext.trans ?_ (held_left (by assumption))))))))).mono ?_; rintro e w5 ⟨⟨r', a', c'⟩, rfl, hqr, hqo, hb5⟩; simp only at hqr; subst hqr; have HX5 := Hid.mk' (show Ext W w5 by (repeat (with_reducible (first | exact Ext.refl _ | assumption | exact held_left (by assumption) | apply Ext.drewN | apply Ext.drew | apply Ext.alloc | (refine Ext.setCell ?_ (by first | (simp; done) | (simp; omega) | omega) _) | (refine Ext.trans ?_ (by assumption)) | (refine Ext.trans ?_ (held_left (by assumption))))))); have HQO := Hid.mk' hqo; have g5 := (HQ1.out.ext HX5.out).cell; have z5 := (HQ1.out.ext HX5.out).lt; have gY5 := (HbY.out.ext HX5.out).cell; have zY5 := (HbY.out.ext HX5.out).lt; clear hqo hb5; try simp only))
          refine wpAnyIn_ready (rs := [3]) (by kernel_rfl) (by simp) ?_
          refine AllReadyIn.cons rfl (fun K hK => ?_) ?_
          · skip
            (go_simp; refine hK _ _ ?_; clear hK K)
            refine wpAnyIn_ready (rs := [4]) (by kernel_rfl) (by simp) ?_
            refine AllReadyIn.cons rfl (fun K hK => ?_) ?_
            · skip
              obtain ⟨v6, w6, hr6, ho6, hg6, -, hat6⟩ := run_append_own_at (P := Tryz.prog) (w5.alloc (.cells #[.int .u32 oid, .int .u32 ver, .string nm, .int .u8 id, .slice a' cols.length c'] 59)) (w.heap.size + 1 + 1 + 1) 22 22 59 i0 _ 5 56 Tryz.underlying22 hi hz0 hz1 hz2 rfl (by decide) (.slice av qs.length cv) qs.length _ (owns_ext q2.out.own (HX5.out.alloc _)) ⟨w5.heap.size, 0, none⟩ 1 1 (RR.cells ⟨⟨oid, ver, nm, id, cols⟩, a', c'⟩) rfl (cells_new _ #[.int .u32 oid, .int .u32 ver, .string nm, .int .u8 id, .slice a' cols.length c'] _) (by intro u hu; simp [RR.cells] at hu; rcases hu with rfl | rfl | rfl | rfl | rfl <;> rfl) (by unfold maxLen; omega) (by omega) (by have := HX5.out.size; simp; omega)
              obtain ⟨a6, c6, rfl⟩ := owns_shape ho6
              have HO6 := Hid.mk' ho6
              have HG6 := Hid.mk' hg6
              have HAT6 := Hid.mk' hat6
              have hb6 : Blk w6 (w.heap.size + 1 + 1) #[.slice av qs.length cv] 22 := (hg6.block _ (by have := HX5.out.size; simp; omega) (fun e => by have := (hNB.out _ e.symm).1; omega)).trans ((HQ1.out.ext HX5.out).alloc _)
              have HB6 := Hid.mk' hb6
              have g6 := hb6.cell
              have g6f := hb6.frozen
              have g6z := hb6.lt
              clear ho6 hg6 hat6 hb6
              (refine stepIn_append rfl _ _ 22 rfl (.slice av qs.length cv) (.slice (some ⟨w5.heap.size, 0, none⟩) 1 1) (by simp [Act.eval]) (by simp [Act.eval]) hr6 ?_; refine hK _ _ ?_; clear hK K)
              refine wpAnyIn_ready (rs := [5]) (by kernel_rfl) (by simp) ?_
              refine AllReadyIn.cons rfl (fun K hK => ?_) ?_
              · skip
                (go_simp; refine hK _ _ ?_; clear hK K)
                refine wpAnyIn_done (by kernel_rfl) ?_ _
                gi_wp2
                exact HFIN.out w5 w6 a' c' a6 c6 HX5.out HQO.out HO6.out HG6.out HAT6.out HB6.out
              exact AllReadyIn.nil
            exact AllReadyIn.nil
          exact AllReadyIn.nil
        exact AllReadyIn.nil
      refine AllReadyIn.cons rfl (fun K hK => ?_) ?_
      · skip
        (go_simp; gi_wp2_with (gi_at_call 31; refine (CallsIn.inRound l (HX.out _ _ (by (repeat (with_reducible (first | exact Ext.refl _ | assumption | exact held_left (by assumption) | apply Ext.drewN | apply Ext.drew | apply Ext.alloc | (refine Ext.setCell ?_ (by first | (simp; done) | (simp; omega) | omega) _) | (refine Ext.trans ?_ (by assumption)) | (refine Ext.trans ?_ (held_left (by assumption))))))))).mono ?_; rintro e w5 ⟨⟨r', a', c'⟩, rfl, hqr, hqo, hb5⟩; simp only at hqr; subst hqr; have HX5 := Hid.mk' (show Ext W w5 by (repeat (with_reducible (first | exact Ext.refl _ | assumption | exact held_left (by assumption) | apply Ext.drewN | apply Ext.drew | apply Ext.alloc | (refine Ext.setCell ?_ (by first | (simp; done) | (simp; omega) | omega) _) | (refine Ext.trans ?_ (by assumption)) | (refine Ext.trans ?_ (held_left (by assumption))))))); have HQO := Hid.mk' hqo; have g5 := (HQ1.out.ext HX5.out).cell; have z5 := (HQ1.out.ext HX5.out).lt; have gY5 := (HbY.out.ext HX5.out).cell; have zY5 := (HbY.out.ext HX5.out).lt; clear hqo hb5; try simp only))
        refine wpAnyIn_ready (rs := [0, 3]) (by kernel_rfl) (by simp) ?_
        refine AllReadyIn.cons rfl (fun K hK => ?_) ?_
        · skip
          (go_simp; refine hK _ _ ?_; clear hK K)
          refine wpAnyIn_ready (rs := [3]) (by kernel_rfl) (by simp) ?_
          refine AllReadyIn.cons rfl (fun K hK => ?_) ?_
          · skip
            (go_simp; refine hK _ _ ?_; clear hK K)
            refine wpAnyIn_ready (rs := [4]) (by kernel_rfl) (by simp) ?_
            refine AllReadyIn.cons rfl (fun K hK => ?_) ?_
            · skip
              obtain ⟨v6, w6, hr6, ho6, hg6, -, hat6⟩ := run_append_own_at (P := Tryz.prog) (w5.alloc (.cells #[.int .u32 oid, .int .u32 ver, .string nm, .int .u8 id, .slice a' cols.length c'] 59)) (w.heap.size + 1 + 1 + 1) 22 22 59 i0 _ 5 56 Tryz.underlying22 hi hz0 hz1 hz2 rfl (by decide) (.slice av qs.length cv) qs.length _ (owns_ext q2.out.own (HX5.out.alloc _)) ⟨w5.heap.size, 0, none⟩ 1 1 (RR.cells ⟨⟨oid, ver, nm, id, cols⟩, a', c'⟩) rfl (cells_new _ #[.int .u32 oid, .int .u32 ver, .string nm, .int .u8 id, .slice a' cols.length c'] _) (by intro u hu; simp [RR.cells] at hu; rcases hu with rfl | rfl | rfl | rfl | rfl <;> rfl) (by unfold maxLen; omega) (by omega) (by have := HX5.out.size; simp; omega)
              obtain ⟨a6, c6, rfl⟩ := owns_shape ho6
              have HO6 := Hid.mk' ho6
              have HG6 := Hid.mk' hg6
              have HAT6 := Hid.mk' hat6
              have hb6 : Blk w6 (w.heap.size + 1 + 1) #[.slice av qs.length cv] 22 := (hg6.block _ (by have := HX5.out.size; simp; omega) (fun e => by have := (hNB.out _ e.symm).1; omega)).trans ((HQ1.out.ext HX5.out).alloc _)
              have HB6 := Hid.mk' hb6
              have g6 := hb6.cell
              have g6f := hb6.frozen
              have g6z := hb6.lt
              clear ho6 hg6 hat6 hb6
              (refine stepIn_append rfl _ _ 22 rfl (.slice av qs.length cv) (.slice (some ⟨w5.heap.size, 0, none⟩) 1 1) (by simp [Act.eval]) (by simp [Act.eval]) hr6 ?_; refine hK _ _ ?_; clear hK K)
              refine wpAnyIn_ready (rs := [5]) (by kernel_rfl) (by simp) ?_
              refine AllReadyIn.cons rfl (fun K hK => ?_) ?_
              · skip
                (go_simp; refine hK _ _ ?_; clear hK K)
                refine wpAnyIn_done (by kernel_rfl) ?_ _
                gi_wp2
                exact HFIN.out w5 w6 a' c' a6 c6 HX5.out HQO.out HO6.out HG6.out HAT6.out HB6.out
              exact AllReadyIn.nil
            exact AllReadyIn.nil
          exact AllReadyIn.nil
        refine AllReadyIn.cons rfl (fun K hK => ?_) ?_
        · skip
          (go_simp; refine hK _ _ ?_; clear hK K)
          refine wpAnyIn_ready (rs := [0]) (by kernel_rfl) (by simp) ?_
          refine AllReadyIn.cons rfl (fun K hK => ?_) ?_
          · skip
            (go_simp; refine hK _ _ ?_; clear hK K)
            refine wpAnyIn_ready (rs := [4]) (by kernel_rfl) (by simp) ?_
            refine AllReadyIn.cons rfl (fun K hK => ?_) ?_
            · skip
              obtain ⟨v6, w6, hr6, ho6, hg6, -, hat6⟩ := run_append_own_at (P := Tryz.prog) (w5.alloc (.cells #[.int .u32 oid, .int .u32 ver, .string nm, .int .u8 id, .slice a' cols.length c'] 59)) (w.heap.size + 1 + 1 + 1) 22 22 59 i0 _ 5 56 Tryz.underlying22 hi hz0 hz1 hz2 rfl (by decide) (.slice av qs.length cv) qs.length _ (owns_ext q2.out.own (HX5.out.alloc _)) ⟨w5.heap.size, 0, none⟩ 1 1 (RR.cells ⟨⟨oid, ver, nm, id, cols⟩, a', c'⟩) rfl (cells_new _ #[.int .u32 oid, .int .u32 ver, .string nm, .int .u8 id, .slice a' cols.length c'] _) (by intro u hu; simp [RR.cells] at hu; rcases hu with rfl | rfl | rfl | rfl | rfl <;> rfl) (by unfold maxLen; omega) (by omega) (by have := HX5.out.size; simp; omega)
              obtain ⟨a6, c6, rfl⟩ := owns_shape ho6
              have HO6 := Hid.mk' ho6
              have HG6 := Hid.mk' hg6
              have HAT6 := Hid.mk' hat6
              have hb6 : Blk w6 (w.heap.size + 1 + 1) #[.slice av qs.length cv] 22 := (hg6.block _ (by have := HX5.out.size; simp; omega) (fun e => by have := (hNB.out _ e.symm).1; omega)).trans ((HQ1.out.ext HX5.out).alloc _)
              have HB6 := Hid.mk' hb6
              have g6 := hb6.cell
              have g6f := hb6.frozen
              have g6z := hb6.lt
              clear ho6 hg6 hat6 hb6
              (refine stepIn_append rfl _ _ 22 rfl (.slice av qs.length cv) (.slice (some ⟨w5.heap.size, 0, none⟩) 1 1) (by simp [Act.eval]) (by simp [Act.eval]) hr6 ?_; refine hK _ _ ?_; clear hK K)
              refine wpAnyIn_ready (rs := [5]) (by kernel_rfl) (by simp) ?_
              refine AllReadyIn.cons rfl (fun K hK => ?_) ?_
              · skip
                (go_simp; refine hK _ _ ?_; clear hK K)
                refine wpAnyIn_done (by kernel_rfl) ?_ _
                gi_wp2
                exact HFIN.out w5 w6 a' c' a6 c6 HX5.out HQO.out HO6.out HG6.out HAT6.out HB6.out
              exact AllReadyIn.nil
            exact AllReadyIn.nil
          exact AllReadyIn.nil
        exact AllReadyIn.nil
      exact AllReadyIn.nil
    exact AllReadyIn.nil
  case done =>
    rintro D ys W hD hys ⟨⟨av, cv, qs, q1, q2⟩, q3, q4, q5⟩ hK
    have g1 := q1.cell
    have g1z := q1.lt
    have g3 := q3.cell
    have g3f := q3.frozen
    have g3z := q3.lt
    have g4 := q4.cell
    have g4f := q4.frozen
    have g4z := q4.lt
    gi_wp2
    have hK' := ((KeepsOthers.setCell W ⟨w.heap.size, 0, none⟩ (.slice av qs.length cv)).trans (KeepsOthers.setCell _ ⟨w.heap.size + 1, 0, none⟩ (.bool true))).same D _ hK rfl
    have hEx := (q5.out.1.setCell (p := ⟨w.heap.size, 0, none⟩) (Nat.le_refl _) (.slice av qs.length cv)).setCell (p := ⟨w.heap.size + 1, 0, none⟩) (by show w.heap.size ≤ w.heap.size + 1; omega) (.bool true)
    have hq1 := (q3.set 0 (.slice av qs.length cv)).other ⟨w.heap.size + 1, 0, none⟩ (.bool true) (by show w.heap.size ≠ w.heap.size + 1; omega)
    have hq2 := (q4.other ⟨w.heap.size, 0, none⟩ (.slice av qs.length cv) (by show w.heap.size + 1 ≠ w.heap.size; omega)).set 0 (.bool true)
    have hbk := (q2.out.set (p := ⟨w.heap.size, 0, none⟩) (by show w.heap.size < _; omega) (.slice av qs.length cv)).set (p := ⟨w.heap.size + 1, 0, none⟩) (by show w.heap.size + 1 < _; omega) (.bool true)
    obtain ⟨V, hV⟩ : ∃ V, V = (W.setCell ⟨w.heap.size, 0, none⟩ (.slice av qs.length cv)).setCell ⟨w.heap.size + 1, 0, none⟩ (.bool true) := ⟨_, rfl⟩
    rw [← hV] at hq1 hq2 hK' hEx hbk ⊢
    have hg' := grownBy_putObj' V D (.deferred none)
    have hr' : ∀ r, some D = some r → ∃ ob : Obj, V.heap[r]? = some ob ∧ ob.isCells = false := fun r e => by cases e; exact ⟨_, hK', rfl⟩
    have hc0 := cell_kept (hq1.cell 0) hg' hr'
    have hc1 := cell_kept (hq2.cell 0) hg' hr'
    have hbk2 := hbk.kept hg' hr'
    refine ⟨by simp, .inl ⟨_, _, rfl, run_takeDeferred hK', ?_⟩⟩
    refine ⟨.tuple #[.slice av qs.length cv, .bool true], ?_, ⟨av, cv, qs, rfl, ⟨owns_base hbk2.own (by omega), by rw [hbk2.r, hys], fun q hq => (hbk2.sl q hq).mono (by omega), hbk2.ne⟩, hEx.trans (belowK_b (w := w) (Nat.le_refl _) V D _ _ (by omega) hK' rfl rfl)⟩⟩
    simp [results, Tryz.f12, go_sem, hc0, hc1]

theorem back9_any (N g : Nat) (c : Value) (ps : List RR) (w : World) (hc : Ca w N g c ps) :
    Calls Tryz.prog 12 #[.pointer (some ⟨g, 0, none⟩)] w fun e w' => ∃ a' c' qs, e = .returned (.tuple #[.slice a' qs.length c', .bool true]) ∧ BkR w' w.heap.size (ps.map RR.r) (.slice a' qs.length c') qs ∧ Ext w w' :=
  callsIn_wide.1 (back9_in Fence.wide 4 rfl trivial trivial trivial trivial trivial rfl (Nat.le_refl _) N g c ps w hc)

end Go.Proofs.YthdjinicmnhgpaaGreatDoor


/-
The awake of the laws of catalogs.
-/
namespace Go.Proofs.YthdjinicmnhgpaaGreatDoor
open Go.RowKit

def aw9 (v : Int) : Rl := ⟨3, v, ⟨#[116]⟩, 0, [⟨⟨#[97]⟩, 1, false⟩]⟩
theorem aw9_r1 : (aw9 1).right = 0 := by decide
theorem aw9_r2 : (aw9 2).right = 0 := by decide
theorem aw9_up : ofUp [aw9 2, aw9 1] 2 = [aw9 1, aw9 2] := by rfl
theorem aw9_ofE : ofE [aw9 2, aw9 1] = 0 := by decide
theorem aw9_ofPl : ofPl [aw9 2, aw9 1] = 2 := by decide

theorem aw9_wb (v : Int) : (aw9 v).wb := ⟨by show 1 ≤ 9223372036854775807; omega, by intro c hc; simp [aw9] at hc; subst hc; show 1 ≤ 9223372036854775807; omega, by show 1 ≤ 5864062014634; omega, Int.le_refl 0⟩
theorem two_of {qs : List RR} {a b : Rl} (h : qs.map RR.r = [a, b]) : ∃ x y, qs = [x, y] ∧ x.r = a ∧ y.r = b := by
  match qs, h with
  | [x, y], h =>
    simp only [List.map_cons, List.map_nil, List.cons.injEq, and_true] at h
    exact ⟨x, y, rfl, h.1, h.2⟩

end Go.Proofs.YthdjinicmnhgpaaGreatDoor
