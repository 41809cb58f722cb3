/-
The youngest relation of an oid: the program's Last, over slices.Backward.
-/
import Derived.RangeFuncNested
import Derived.RangeFuncBound
import Derived.RangeFuncCalls
import Derived.RangeFuncLeaves
import Derived.RangeFuncBox
import Derived.Shelf.Abstract
import Derived.Shelf.RegionOpen
import Derived.OwnWalkIn
import Derived.TacticsInMore
import Derived.LoopNIn
import Derived.LoopIn
import Derived.RangeFuncOne
import Derived.Test.YthdjinicmnhgpaaP9
namespace Go.Proofs.Ythdjinicmnhgpaa
open Go.RowKit Go.Shelf
attribute [local go_sem] Oper.semAt_some

abbrev IX (n : Nat) := { i : Nat // i < n }
/-- The last k places, from the last one on. -/
def backUp (n : Nat) : Nat → List (IX n)
  | 0 => []
  | k + 1 => if h : k < n then backUp n k ++ [⟨n - 1 - k, by omega⟩] else backUp n k
theorem backUp_succ {n k : Nat} (h : k < n) : backUp n (k + 1) = backUp n k ++ [⟨n - 1 - k, by omega⟩] := by
  conv => lhs; unfold backUp
  rw [dif_pos h]
theorem backUp_len {n : Nat} : ∀ k, (backUp n k).length ≤ k
  | 0 => Nat.le_refl _
  | k + 1 => by
    have := backUp_len (n := n) k
    unfold backUp
    split
    · rw [List.length_append, List.length_singleton]; omega
    · omega
theorem backUp_mem {n : Nat} : ∀ k, k ≤ n → ∀ x : IX n, x ∈ backUp n k ↔ n - k ≤ x.1
  | 0, _, x => by have := x.2; simp [backUp]; omega
  | k + 1, hk, x => by
    have ih := backUp_mem k (by omega) x
    have hx := x.2
    rw [backUp_succ (by omega), List.mem_append, ih, List.mem_singleton]
    constructor
    · rintro (h | h)
      · omega
      · have := congrArg Subtype.val h; simp only at this; omega
    · intro h
      by_cases e : x.1 = n - 1 - k
      · right; exact Subtype.ext e
      · left; omega
def encB (ps : List RR) (x : IX ps.length) : Array Value := #[.int .i64 (x.1 : Int), .agg #[.int .u32 (ps[x.1]'x.2).r.oid, .int .u32 (ps[x.1]'x.2).r.ver, .string (ps[x.1]'x.2).r.nm, .int .u8 (ps[x.1]'x.2).r.id, .slice (ps[x.1]'x.2).a (ps[x.1]'x.2).r.cols.length (ps[x.1]'x.2).c]]

/-- The youngest one, from the back. -/
theorem lastUp_from {o : Int} {ps : List RR} {i : Nat} (h : ∀ j (hj : j < ps.length), i < j → ps[j].r.oid ≠ o) : ∀ k, k + i + 1 = ps.length → lastUp o ps ps.length = lastUp o ps (i + 1) := by
  have : ∀ m, i + 1 + m ≤ ps.length → lastUp o ps (i + 1 + m) = lastUp o ps (i + 1) := by
    intro m
    induction m with
    | zero => intro _; rfl
    | succ m ih =>
      intro hm
      rw [show i + 1 + (m + 1) = (i + 1 + m) + 1 by omega, lastUp_miss (by omega) (h _ (by omega) (by omega))]
      exact ih (by omega)
  intro k hk
  have h2 := this k (by omega)
  rw [show i + 1 + k = ps.length by omega] at h2
  exact h2
theorem lastUp_none {o : Int} {ps : List RR} (h : ∀ j (hj : j < ps.length), ps[j].r.oid ≠ o) : ∀ k, lastUp o ps k = none
  | 0 => rfl
  | k + 1 => by
    unfold lastUp
    rw [dif_neg (fun q => h k q.1 q.2)]
    exact lastUp_none h k

set_option maxRecDepth 100000 in
set_option maxHeartbeats 2000000 in
theorem bwd1_in (F : Fence) (n : Nat) (hF : F.fn 88) (hro : F.round = none) (hn : 1 ≤ n) (l Bs : Nat) (w0 : World) (a : Option Addr) (cap : Nat) (ps : List RR) (hlen : ps.length ≤ 1000) (hl : Hid (Sl w0 (.slice a ps.length cap) 5 (ps.map RR.cells)))
    (J Jx : List (IX ps.length) → World → Prop) (W0 : World)
    (hY : Hid (∀ pre x W, J pre W → pre.length < ps.length → YieldAt F (n - 1) Try.prog l (encB ps x) W fun e W' => (e = .returned (.bool true) ∧ J (pre ++ [x]) W' ∧ Below w0.heap.size W W') ∨ (e = .returned (.bool false) ∧ Jx (pre ++ [x]) W')))
    (hE : Hid (Ext w0 W0)) (hBs : w0.cell? ⟨Bs, 0, none⟩ = some (.slice a ps.length cap)) (hBz : Bs < w0.heap.size) (h0 : Hid (J [] W0)) :
    CallsIn F n Try.prog 88 #[.func (.yield l) #[] #[], .pointer (some ⟨Bs, 0, none⟩)] W0 fun e W' => (∃ v, e = .returned v) ∧
      ((∃ ys, ys = backUp ps.length ps.length ∧ J ys W') ∨ (∃ pre, (∃ k, k ≤ ps.length ∧ pre = backUp ps.length k) ∧ Jx pre W')) := by
  have HBS : Hid (∀ W, Ext w0 W → W.cell? ⟨Bs, 0, none⟩ = some (.slice a ps.length cap)) := Hid.mk' (fun W h => (h.cells.1 Bs 0 hBz).trans hBs)
  have g00 := HBS.out _ hE.out
  refine callsIn_of_wp Try.func88 rfl hF ?_ hro
  simp only [Try.ntmps88, List.size_toArray, List.length_cons, List.length_nil, Nat.reduceAdd, Nat.reduceSub, Array.replicate_succ, Array.replicate_zero, List.push_toArray, List.append_toArray, List.nil_append, List.cons_append]
  gi_wp2
  clear g00
  gi_loopw [3] (fun i wr => ∃ k : Nat, k ≤ ps.length ∧ i = .int .i64 ((ps.length : Int) - 1 - k) ∧ Hid (J (backUp ps.length k) wr) ∧ Hid (Ext w0 wr)) (fun i _ => (intOf i + 1).toNat)
  case atStart => exact ⟨0, Nat.zero_le _, by go_num, h0, hE⟩
  case round =>
    obtain ⟨k, hk, rfl, hJs, hEw⟩ := hrel
    have g00 := HBS.out _ hEw.out
    by_cases hlt : k < ps.length
    · obtain ⟨m, hm⟩ : ∃ m : Nat, m = ps.length - 1 - k := ⟨_, rfl⟩
      have hmp : m < ps.length := by omega
      have e0 : (ps.length : Int) - 1 - (k : Int) = (m : Int) := by omega
      rw [e0]
      obtain ⟨b, o, rfl, hb, hx⟩ := hl.out.at_ (i := m) (by simpa using hmp)
      obtain ⟨f0, f1, f2, f3, f4⟩ := RR.at_ hmp hx hb hEw.out
      have hHU : backUp ps.length (k + 1) = backUp ps.length k ++ [⟨m, hmp⟩] := by rw [backUp_succ hlt]; congr 2; exact Subtype.ext hm.symm
      have HU := Hid.mk' hHU
      obtain ⟨fn, tmps, assign, body, hy, hR⟩ := hY.out (backUp ps.length k) ⟨m, hmp⟩ wr hJs.out (by have := backUp_len (n := ps.length) k; omega)
      simp only [encB] at hy
      have HM := Hid.mk' hm
      have hbw : b < wr.heap.size := Nat.lt_of_lt_of_le hb hEw.out.size
      clear hx hHU hm
      gi_wp2
      refine hR.mono ?_
      rintro e W3 (⟨rfl, hJ3, hk3⟩ | ⟨rfl, hJx3⟩)
      · gi_wp2
        go_roundw
        case rel => exact ⟨k + 1, by omega, by (have := HM.out); first | go_num | (congr 1; omega), Hid.mk' (by rw [HU.out]; exact hJ3), Hid.mk' (Below.trans hEw.out hk3)⟩
        case measure => have := HM.out; simp [intOf]; try omega
      · gi_wp2
        refine bodyPost_ret (results_none rfl _ _ _) rfl ?_
        exact ⟨⟨_, rfl⟩, .inr ⟨_, ⟨k + 1, by omega, HU.out.symm⟩, hJx3⟩⟩
    · obtain rfl : k = ps.length := by omega
      gi_wp2
      go_end0
      exact ⟨⟨_, rfl⟩, .inl ⟨_, rfl, hJs.out⟩⟩

theorem bwd_stops (F : Fence) (n : Nat) (hF : F.fn 88) (hro : F.round = none) (hn : 1 ≤ n) (Bs : Nat) (w0 : World) (a : Option Addr) (cap : Nat) (ps : List RR) (hlen : ps.length ≤ 1000) (hl : Sl w0 (.slice a ps.length cap) 5 (ps.map RR.cells)) (hBs : w0.cell? ⟨Bs, 0, none⟩ = some (.slice a ps.length cap)) (hBz : Bs < w0.heap.size) :
    SeqStopsK F n Try.prog 88 #[.pointer (some ⟨Bs, 0, none⟩)] (encB ps) (Below w0.heap.size) (fun ys => ys = backUp ps.length ps.length) (fun pre => ∃ k, k ≤ ps.length ∧ pre = backUp ps.length k) ps.length w0 := fun l J Jx W hW _ _ hY h0 =>
  bwd1_in F n hF hro hn l Bs w0 a cap ps hlen hl J Jx W hY hW hBs hBz h0

set_option maxHeartbeats 1000000 in
theorem bwd_in (F : Fence) (n : Nat) (hF : F.fn 57) (hro : F.round = none) (a : Option Addr) (m cap : Nat) (w : World) :
    CallsIn F n Try.prog 57 #[.slice a m cap] w fun e w' => e = .returned (.func (.func 88) #[] #[.pointer (some ⟨w.heap.size, 0, none⟩)]) ∧ w' = w.alloc (.cells #[.slice a m cap] 25) := by
  refine callsIn_of_wp Try.func57 rfl hF ?_ hro
  simp only [Try.ntmps57, List.size_toArray, List.length_cons, List.length_nil, Nat.reduceAdd, Nat.reduceSub, Array.replicate_succ, Array.replicate_zero, List.push_toArray, List.append_toArray, List.nil_append, List.cons_append]
  gi_wp2
  go_ret
  exact ⟨rfl, rfl⟩

theorem owns_kept {A B : World} {row : Option Nat} {base n size : Nat} {e : TypeId} {v : Value} {xs : List Value} (h : A.ownsRow base e size v n xs) (hg : A.grownBy B row) (hr : ∀ r, row = some r → ∃ o : Obj, A.heap[r]? = some o ∧ o.isCells = false) : B.ownsRow base e size v n xs := by
  refine owns_kp h (Kp.of_grown hg) (fun b hb e => ?_)
  obtain ⟨o, ho, hn⟩ := hr b e
  rcases h.2 with ⟨rfl, _⟩ | ⟨g, cap, cur, rfl, hbg, hh, _⟩
  · simp [Value.ownBlock] at hb
  · simp [Value.ownBlock] at hb; subst hb
    rw [hh] at ho; cases ho; simp [Obj.isCells] at hn

/-- What Last leaves in its two results' cells. -/
structure LastAt (N : Nat) (w W : World) (q : RR) : Prop where
  c0 : W.cell? ⟨w.heap.size + 1, 0, none⟩ = some (.int .u32 q.r.oid)
  c1 : W.cell? ⟨w.heap.size + 1, 1, none⟩ = some (.int .u32 q.r.ver)
  c2 : W.cell? ⟨w.heap.size + 1, 2, none⟩ = some (.string q.r.nm)
  c3 : W.cell? ⟨w.heap.size + 1, 3, none⟩ = some (.int .u8 q.r.id)
  c4 : W.cell? ⟨w.heap.size + 1, 4, none⟩ = some (.slice q.a q.r.cols.length q.c)
  b : W.cell? ⟨w.heap.size + 1 + 1, 0, none⟩ = some (.bool true)
  own : q.owned N W
theorem LastAt.kept {N : Nat} {w A B : World} {q : RR} {row : Option Nat} (h : LastAt N w A q) (hg : A.grownBy B row) (hr : ∀ r, row = some r → ∃ o : Obj, A.heap[r]? = some o ∧ o.isCells = false) : LastAt N w B q :=
  ⟨cell_kept h.c0 hg hr, cell_kept h.c1 hg hr, cell_kept h.c2 hg hr, cell_kept h.c3 hg hr, cell_kept h.c4 hg hr, cell_kept h.b hg hr, owns_kept h.own hg hr⟩

set_option maxRecDepth 100000 in
set_option maxHeartbeats 4000000 in
theorem last_in (F : Fence) (n : Nat) (hFe : F = Fence.wide) (h1F : F.fn 88) (hKF : F.fn 57) (hOF : F.fn 51) (hDF : F.fn 28) (hro : F.round = none) (hn : 3 ≤ n) (N g : Nat) (c : Value) (ps : List RR) (o : Int) (w : World) (hc : Ca w N g c ps) :
    CallsIn F n Try.prog 28 #[.pointer (some ⟨g, 0, none⟩), .int .u32 o] w fun e w' => ∃ q : RR, e = .returned (.tuple #[q.agg, .bool (lastUp o ps ps.length).isSome]) ∧ q.r = ((lastUp o ps ps.length).getD RR.zero).r ∧ q.owned w.heap.size w' ∧ Ext w w' := by
  have h1 : 1 ≤ n := by omega
  obtain ⟨a, cap, rfl⟩ := hc.shape
  have HC := Hid.mk' hc
  have HOW := Hid.mk' (fun m (p : RR) (hp : p ∈ ps) W (h : Ext w W) => (show CallsIn F m Try.prog 51 #[p.agg] W _ from by rw [hFe]; exact callsIn_wide.2 (pown_any p W ((hc.sl p hp).ext h) (by have := hc.n16 hp; omega))))
  have g0 := hc.ptr.cell
  have z0 := hc.ptr.lt
  have hn64 := hc.n64
  have g3 := (hc.ptr.ext (show Ext w (((w.alloc (.cells #[.int .u32 o] 31)).alloc (.cells #[.int .u32 0, .int .u32 0, .string ⟨#[]⟩, .int .u8 0, .slice none 0 0] 36)).alloc (.cells #[.bool false] 4)) by (repeat (with_reducible (first | exact Ext.refl _ | assumption | exact held_left (by assumption) | apply Ext.drewN | apply Ext.drew | apply Ext.alloc | (refine Ext.setCell ?_ (by first | (simp; done) | (simp; omega) | omega) _) | (refine Ext.trans ?_ (by assumption)) | (refine Ext.trans ?_ (held_left (by assumption)))))))).cell
  have z3 := (hc.ptr.ext (show Ext w (((w.alloc (.cells #[.int .u32 o] 31)).alloc (.cells #[.int .u32 0, .int .u32 0, .string ⟨#[]⟩, .int .u8 0, .slice none 0 0] 36)).alloc (.cells #[.bool false] 4)) by (repeat (with_reducible (first | exact Ext.refl _ | assumption | exact held_left (by assumption) | apply Ext.drewN | apply Ext.drew | apply Ext.alloc | (refine Ext.setCell ?_ (by first | (simp; done) | (simp; omega) | omega) _) | (refine Ext.trans ?_ (by assumption)) | (refine Ext.trans ?_ (held_left (by assumption)))))))).lt
  clear hc hFe
  refine callsIn_of_wp_marks Try.func28 rfl hDF ?_ hro
  simp only [Try.ntmps28, List.size_toArray, List.length_cons, List.length_nil, Nat.reduceAdd, Nat.reduceSub, Array.replicate_succ, Array.replicate_zero, List.push_toArray, List.append_toArray, List.nil_append, List.cons_append]
  gi_wp2_with (gi_at_call 57; refine (bwd_in F (n - 1) hKF hro _ _ _ _).mono ?_; rintro e w' ⟨rfl, rfl⟩)
  have hE4 : Ext w ((((w.alloc (.cells #[.int .u32 o] 31)).alloc (.cells #[.int .u32 0, .int .u32 0, .string ⟨#[]⟩, .int .u8 0, .slice none 0 0] 36)).alloc (.cells #[.bool false] 4)).alloc (.cells #[.slice a ps.length cap] 25)) := by (repeat (with_reducible (first | exact Ext.refl _ | assumption | exact held_left (by assumption) | apply Ext.drewN | apply Ext.drew | apply Ext.alloc | (refine Ext.setCell ?_ (by first | (simp; done) | (simp; omega) | omega) _) | (refine Ext.trans ?_ (by assumption)) | (refine Ext.trans ?_ (held_left (by assumption))))))
  have hS4 : Sl ((((w.alloc (.cells #[.int .u32 o] 31)).alloc (.cells #[.int .u32 0, .int .u32 0, .string ⟨#[]⟩, .int .u8 0, .slice none 0 0] 36)).alloc (.cells #[.bool false] 4)).alloc (.cells #[.slice a ps.length cap] 25)) (.slice a ps.length cap) 5 (ps.map RR.cells) := (HC.out.rl.ext hE4).row
  have hB4 : Blk ((((w.alloc (.cells #[.int .u32 o] 31)).alloc (.cells #[.int .u32 0, .int .u32 0, .string ⟨#[]⟩, .int .u8 0, .slice none 0 0] 36)).alloc (.cells #[.bool false] 4)).alloc (.cells #[.slice a ps.length cap] 25)) (w.heap.size + 1 + 1 + 1) #[.slice a ps.length cap] 25 := Blk.new' _ _ (by simp)
  obtain ⟨W4, hW4⟩ : ∃ W4, W4 = ((((w.alloc (.cells #[.int .u32 o] 31)).alloc (.cells #[.int .u32 0, .int .u32 0, .string ⟨#[]⟩, .int .u8 0, .slice none 0 0] 36)).alloc (.cells #[.bool false] 4)).alloc (.cells #[.slice a ps.length cap] 25)) := ⟨_, rfl⟩
  have hz4 : W4.heap.size = w.heap.size + 1 + 1 + 1 + 1 := by rw [hW4]; simp
  have HR0 : Hid (Blk W4 w.heap.size #[.int .u32 o] 31) := Hid.mk' (by rw [hW4]; exact (((Blk.new _ _ _).alloc _).alloc _).alloc _)
  have HR1 : Hid (Blk W4 (w.heap.size + 1) #[.int .u32 0, .int .u32 0, .string ⟨#[]⟩, .int .u8 0, .slice none 0 0] 36) := Hid.mk' (by rw [hW4]; exact ((Blk.new' _ _ (by simp)).alloc _).alloc _)
  have HR2 : Hid (Blk W4 (w.heap.size + 1 + 1) #[.bool false] 4) := Hid.mk' (by rw [hW4]; exact (Blk.new' _ _ (by simp)).alloc _)
  rw [← hW4] at hE4 hS4 hB4 ⊢
  have HE4 := Hid.mk' hE4
  clear hW4 g3 z3 g0 hE4
  refine wpIn_rangeFunc_ownH hro h1 (gf := 88) (lb := #[.pointer (some ⟨w.heap.size + 1 + 1 + 1, 0, none⟩)]) rfl h1F (enters_of Try.func88 (by kernel_rfl) rfl)
    (bwd_stops F (n - 1) h1F hro (by omega) (w.heap.size + 1 + 1 + 1) W4 a cap ps (by omega) hS4 (hB4.cell 0) hB4.lt) belowK_t (belowK_b (Nat.le_refl _)) (Below.refl _ _) (fun _ => rfl)
    (fun pre W => Hid (∀ y ∈ pre, (ps[y.1]'y.2).r.oid ≠ o) ∧ Below W4.heap.size W4 W)
    (fun c pre W => (c = .ret ∧ ∃ ini last q, pre = ini ++ [last] ∧ (∀ y ∈ ini, (ps[y.1]'y.2).r.oid ≠ o) ∧ (ps[last.1]'last.2).r.oid = o ∧ q.r = (ps[last.1]'last.2).r ∧ LastAt w.heap.size w W q) ∧ Below w.heap.size w W)
    (OwnFrom.and (ownFrom_pure _ (fun (pre : List (IX ps.length)) => Hid (∀ y ∈ pre, (ps[y.1]'y.2).r.oid ≠ o))) (ownFrom_below (Nat.le_refl _) (Nat.le_refl _)))
    (fun c => OwnFrom.and (Own.from (fun s A B row hs hg hr => by obtain ⟨q1, ini, last, q, q2, q3, q4, q5, q6⟩ := hs; exact ⟨q1, ini, last, q, q2, q3, q4, q5, q6.kept hg hr⟩) _) (ownFrom_below (Nat.le_refl _) (by omega)))
    ⟨Hid.mk' (fun y hy => by cases hy), Below.refl _ _⟩
    (fun x a' W => ∃ X, a' = { tmps := #[.pointer (some ⟨g, 0, none⟩), .int .u32 o, undef, .pointer (some ⟨w.heap.size, 0, none⟩), .pointer (some ⟨w.heap.size + 1, 0, none⟩), .pointer (some ⟨w.heap.size + 1 + 1, 0, none⟩), undef, .pointer (some ⟨X, 0, none⟩), .pointer (some ⟨g, 0, none⟩), .pointer (some ⟨g, 0, none⟩), .pointer (some ⟨g, 0, none⟩), .slice a ps.length cap, .func (.func 88) #[] #[.pointer (some ⟨w.heap.size + 1 + 1 + 1, 0, none⟩)], .int .i64 (x.1 : Int), RR.agg (ps[x.1]'x.2), undef, undef, undef, undef, undef, undef, undef, undef], defers := [] } ∧ W4.heap.size ≤ X ∧ Blk W X #[.int .u32 (ps[x.1]'x.2).r.oid, .int .u32 (ps[x.1]'x.2).r.ver, .string (ps[x.1]'x.2).r.nm, .int .u8 (ps[x.1]'x.2).r.id, .slice (ps[x.1]'x.2).a (ps[x.1]'x.2).r.cols.length (ps[x.1]'x.2).c] 36)
    (fun x a' => fun s A B row hs hg hr => by
      obtain ⟨X, q1, q2, q3⟩ := hs
      refine ⟨X, q1, q2, q3.kp (Kp.of_grown hg) (fun e => ?_)⟩
      obtain ⟨-, ob, ho, hn⟩ := hr X e
      rw [show A.heap[X]? = _ from q3] at ho; cases ho; simp [Obj.isCells] at hn)
    ?assign ?body ?done ?stop
  case assign =>
    rintro l pre x W K ⟨hpre, hB⟩ hK
    have hzW := hB.size
    unfold encB
    rw [fold_two]
    gi_wp2
    exact hK _ _ ((KeepsOthers.alloc _ _).from _) ((Below.refl _ W).alloc hzW _) ⟨hpre, hB.alloc hzW _⟩ ⟨W.heap.size, rfl, hzW, Blk.new _ _ _⟩
  case body =>
    rintro l pre ⟨xi, hxi⟩ a' W hlw hlr ⟨hpre, hB⟩ ⟨X, rfl, hX, hbX⟩ hlen
    have HPRE := hpre
    have HB := Hid.mk' hB
    have HEW : Hid (Ext w W) := Hid.mk' (HE4.out.trans hB)
    have hbc := hbX.cell
    have hbz := hbX.lt
    have h0c := (HR0.out.ext hB).cell
    have h0z := (HR0.out.ext hB).lt
    have hpm : ps[xi] ∈ ps := List.getElem_mem hxi
    have HOWp := Hid.mk' (fun m W (h : Ext w W) => HOW.out m ps[xi] hpm W h)
    have HX : Hid (∀ y ∈ pre ++ [(⟨xi, hxi⟩ : IX ps.length)], ps[xi].r.oid ≠ o → (ps[y.1]'y.2).r.oid ≠ o) := Hid.mk' (fun y hy hne => by
      rcases List.mem_append.1 hy with h | h
      · exact HPRE.out y h
      · rw [List.mem_singleton] at h; rw [h]; exact hne)
    unfold RR.agg
    simp only at hbc ⊢
    obtain ⟨p, hp⟩ : ∃ p, p = ps[xi] := ⟨_, rfl⟩
    rw [← hp] at hbc HOWp HX
    simp only [← hp]
    unfold RR.agg at HOWp
    have HPP := Hid.mk' hp
    clear hp hpre hB hlr hlen hbX
    by_cases ho : p.r.oid = o
    · obtain ⟨⟨oid, ver, nm, id, cols⟩, a2, c2⟩ := p
      simp only at ho hbc HOWp HX ⊢
      subst ho
      have hz5 : w.heap.size + 1 + 1 + 1 + 1 ≤ W.heap.size := by have := HB.out.size; omega
      have h11 : 1 ≤ n - 1 - 1 := by omega
      gi_wp2_with (gi_at_call 51; refine (CallsIn.inRound l (HOWp.out _ _ HEW.out)).mono ?_; rintro e w5 ⟨⟨r', a', c'⟩, rfl, hqr, hqo, hb5⟩; simp only at hqr; subst hqr; have HQO := Hid.mk' hqo; have HB5 := Hid.mk' hb5; have HR15 := Hid.mk' (HR1.out.ext (HB.out.trans (hb5.mono HB.out.size))); have HR25 := Hid.mk' (HR2.out.ext (HB.out.trans (hb5.mono HB.out.size))); have h1c := HR15.out.cell; have h1f := HR15.out.frozen; have h1z := HR15.out.lt; have h2c := HR25.out.cell; have h2f := HR25.out.frozen; have h2z := HR25.out.lt; clear hqo hb5; try simp only)
      have hk5 : KeepsFrom W4.heap.size W w5 := ⟨HB5.out.size, fun k ob hk hob _ => (HB5.out.block k (Array.getElem?_eq_some_iff.1 hob).1).trans hob⟩
      have hq1 := (((((HR15.out.set 0 (.int .u32 oid)).set 1 (.int .u32 ver)).set 2 (.string nm)).set 3 (.int .u8 id)).set 4 (.slice a' cols.length c')).other ⟨w.heap.size + 1 + 1, 0, none⟩ (.bool true) (by show w.heap.size + 1 ≠ w.heap.size + 1 + 1; omega)
      have hq2 := ((((((HR25.out.other ⟨w.heap.size + 1, 0, none⟩ (.int .u32 oid) (by show w.heap.size + 1 + 1 ≠ w.heap.size + 1; omega)).other ⟨w.heap.size + 1, 1, none⟩ (.int .u32 ver) (by show w.heap.size + 1 + 1 ≠ w.heap.size + 1; omega)).other ⟨w.heap.size + 1, 2, none⟩ (.string nm) (by show w.heap.size + 1 + 1 ≠ w.heap.size + 1; omega)).other ⟨w.heap.size + 1, 3, none⟩ (.int .u8 id) (by show w.heap.size + 1 + 1 ≠ w.heap.size + 1; omega)).other ⟨w.heap.size + 1, 4, none⟩ (.slice a' cols.length c') (by show w.heap.size + 1 + 1 ≠ w.heap.size + 1; omega)).set 0 (.bool true))
      refine ⟨hk5.trans (((((((KeepsOthers.setCell _ _ _).trans (KeepsOthers.setCell _ _ _)).trans (KeepsOthers.setCell _ _ _)).trans (KeepsOthers.setCell _ _ _)).trans (KeepsOthers.setCell _ _ _)).trans (KeepsOthers.setCell _ _ _)).from _), ⟨rfl, pre, ⟨xi, hxi⟩, ⟨⟨oid, ver, nm, id, cols⟩, a', c'⟩, rfl, HPRE.out, ?_, ?_, ?_⟩, ?_⟩
      · simp only [← HPP.out]
      · simp only [← HPP.out]
      · refine ⟨hq1.cell 0, hq1.cell 1, hq1.cell 2, hq1.cell 3, hq1.cell 4, hq2.cell 0, ?_⟩
        exact owns_base (base := W.heap.size) (owns_set (owns_set (owns_set (owns_set (owns_set (owns_set HQO.out (by dsimp only; omega) _) (by dsimp only; omega) _) (by dsimp only; omega) _) (by dsimp only; omega) _) (by dsimp only; omega) _) (by dsimp only; omega) _) (by omega)
      · have hEx : Below w.heap.size w w5 := HEW.out.trans HB5.out
        exact (((((hEx.setCell (by dsimp only; omega) _).setCell (by dsimp only; omega) _).setCell (by dsimp only; omega) _).setCell (by dsimp only; omega) _).setCell (by dsimp only; omega) _).setCell (by dsimp only; omega) _
    · have ho' : (p.r.oid == o) = false := by simpa using ho
      have HO := Hid.mk' ho
      clear ho
      gi_wp2
      exact ⟨KeepsFrom.refl _ _, Below.refl _ _, Hid.mk' (fun y hy => HX.out y hy HO.out), HB.out⟩
  case done =>
    rintro D ys W hD rfl ⟨hpre, hB⟩ hK
    have HN : Hid (lastUp o ps ps.length = none) := Hid.mk' (lastUp_none (fun j hj => hpre.out ⟨j, hj⟩ ((backUp_mem _ (Nat.le_refl _) _).2 (by simp))) _)
    have HEW : Hid (Ext w W) := Hid.mk' (HE4.out.trans hB)
    have HR15 := Hid.mk' (HR1.out.ext hB)
    have HR25 := Hid.mk' (HR2.out.ext hB)
    have h1c := HR15.out.cell
    have h1f := HR15.out.frozen
    have h1z := HR15.out.lt
    have h2c := HR25.out.cell
    have h2f := HR25.out.frozen
    have h2z := HR25.out.lt
    gi_wp2
    have hq1 := (((((HR15.out.set 0 (.int .u32 0)).set 1 (.int .u32 0)).set 2 (.string ⟨#[]⟩)).set 3 (.int .u8 0)).set 4 (.slice none 0 0)).other ⟨w.heap.size + 1 + 1, 0, none⟩ (.bool false) (by show w.heap.size + 1 ≠ w.heap.size + 1 + 1; omega)
    have hq2 := ((((((HR25.out.other ⟨w.heap.size + 1, 0, none⟩ (.int .u32 0) (by show w.heap.size + 1 + 1 ≠ w.heap.size + 1; omega)).other ⟨w.heap.size + 1, 1, none⟩ (.int .u32 0) (by show w.heap.size + 1 + 1 ≠ w.heap.size + 1; omega)).other ⟨w.heap.size + 1, 2, none⟩ (.string ⟨#[]⟩) (by show w.heap.size + 1 + 1 ≠ w.heap.size + 1; omega)).other ⟨w.heap.size + 1, 3, none⟩ (.int .u8 0) (by show w.heap.size + 1 + 1 ≠ w.heap.size + 1; omega)).other ⟨w.heap.size + 1, 4, none⟩ (.slice none 0 0) (by show w.heap.size + 1 + 1 ≠ w.heap.size + 1; omega)).set 0 (.bool false))
    have hK' := ((((((KeepsOthers.setCell W ⟨w.heap.size + 1, 0, none⟩ (.int .u32 0)).trans (KeepsOthers.setCell _ ⟨w.heap.size + 1, 1, none⟩ (.int .u32 0))).trans (KeepsOthers.setCell _ ⟨w.heap.size + 1, 2, none⟩ (.string ⟨#[]⟩))).trans (KeepsOthers.setCell _ ⟨w.heap.size + 1, 3, none⟩ (.int .u8 0))).trans (KeepsOthers.setCell _ ⟨w.heap.size + 1, 4, none⟩ (.slice none 0 0))).trans (KeepsOthers.setCell _ ⟨w.heap.size + 1 + 1, 0, none⟩ (.bool false))).same D _ hK rfl
    have hEx : Below w.heap.size w _ := (((((HEW.out.setCell (p := ⟨w.heap.size + 1, 0, none⟩) (by dsimp only; omega) (.int .u32 0)).setCell (p := ⟨w.heap.size + 1, 1, none⟩) (by dsimp only; omega) (.int .u32 0)).setCell (p := ⟨w.heap.size + 1, 2, none⟩) (by dsimp only; omega) (.string ⟨#[]⟩)).setCell (p := ⟨w.heap.size + 1, 3, none⟩) (by dsimp only; omega) (.int .u8 0)).setCell (p := ⟨w.heap.size + 1, 4, none⟩) (by dsimp only; omega) (.slice none 0 0)).setCell (p := ⟨w.heap.size + 1 + 1, 0, none⟩) (by dsimp only; omega) (.bool false)
    obtain ⟨V, hV⟩ : ∃ V, V = (((((W.setCell ⟨w.heap.size + 1, 0, none⟩ (.int .u32 0)).setCell ⟨w.heap.size + 1, 1, none⟩ (.int .u32 0)).setCell ⟨w.heap.size + 1, 2, none⟩ (.string ⟨#[]⟩)).setCell ⟨w.heap.size + 1, 3, none⟩ (.int .u8 0)).setCell ⟨w.heap.size + 1, 4, none⟩ (.slice none 0 0)).setCell ⟨w.heap.size + 1 + 1, 0, none⟩ (.bool false) := ⟨_, rfl⟩
    rw [← hV] at hq1 hq2 hK' hEx ⊢
    have hg' := grownBy_putObj' V D (.deferred none)
    have hr' : ∀ r, some D = some r → ∃ ob : Obj, V.heap[r]? = some ob ∧ ob.isCells = false := fun r e => by cases e; exact ⟨_, hK', rfl⟩
    have hc0 := cell_kept (hq1.cell 0) hg' hr'
    have hc1 := cell_kept (hq1.cell 1) hg' hr'
    have hc2 := cell_kept (hq1.cell 2) hg' hr'
    have hc3 := cell_kept (hq1.cell 3) hg' hr'
    have hc4 := cell_kept (hq1.cell 4) hg' hr'
    have hcb := cell_kept (hq2.cell 0) hg' hr'
    refine ⟨by simp, .inl ⟨_, _, rfl, run_takeDeferred hK', ?_⟩⟩
    refine ⟨.tuple #[RR.agg RR.zero, .bool false], ?_, ⟨RR.zero, by rw [HN.out]; rfl, by rw [HN.out]; rfl, World.ownsRow_nil _ _ _ _, hEx.trans (belowK_b (w := w) (Nat.le_refl _) V D _ _ (by omega) hK' rfl rfl)⟩⟩
    simp [results, Try.f28, go_sem, hc0, hc1, hc2, hc3, hc4, hcb]
    rfl
  case stop =>
    rintro D c pre W hD ⟨k, hk, hpk⟩ ⟨⟨rfl, ini, last, q, e1, e2, e3, e4, e5⟩, hB⟩ hK
    have HL : Hid (lastUp o ps ps.length = some (ps[last.1]'last.2)) := Hid.mk' (by
      cases k with
      | zero => rw [hpk] at e1; simp [backUp] at e1
      | succ k =>
        rw [hpk, backUp_succ (by omega)] at e1
        obtain ⟨h1, h2⟩ := List.append_inj' e1 rfl
        have h3 : last.1 = ps.length - 1 - k := by have := List.singleton_inj.1 h2; rw [← this]
        rw [lastUp_from (i := last.1) (fun j hj hjl => e2 ⟨j, hj⟩ (by rw [← h1]; exact (backUp_mem k (by omega) _).2 (by simp only; omega))) k (by omega), lastUp_hit last.2 e3])
    gi_wp2
    refine ⟨by simp, .inl ⟨_, _, rfl, run_takeDeferred hK, ?_⟩⟩
    have e6 := e5.kept (grownBy_putObj' W D (.deferred none)) (fun r e => by cases e; exact ⟨_, hK, rfl⟩)
    have hc0 := e6.c0
    have hc1 := e6.c1
    have hc2 := e6.c2
    have hc3 := e6.c3
    have hc4 := e6.c4
    have hcb := e6.b
    refine ⟨.tuple #[q.agg, .bool true], ?_, ⟨q, by rw [HL.out]; rfl, by rw [HL.out]; exact e4, e6.own, hB.trans (belowK_b (w := w) (Nat.le_refl _) W D _ _ (by omega) hK rfl rfl)⟩⟩
    simp [results, Try.f28, go_sem, hc0, hc1, hc2, hc3, hc4, hcb]
    rfl

theorem last_any (N g : Nat) (c : Value) (ps : List RR) (o : Int) (w : World) (hc : Ca w N g c ps) :
    Calls Try.prog 28 #[.pointer (some ⟨g, 0, none⟩), .int .u32 o] w fun e w' => ∃ q : RR, e = .returned (.tuple #[q.agg, .bool (lastUp o ps ps.length).isSome]) ∧ q.r = ((lastUp o ps ps.length).getD RR.zero).r ∧ q.owned w.heap.size w' ∧ Ext w w' :=
  callsIn_wide.1 (last_in Fence.wide 3 rfl trivial trivial trivial trivial rfl (Nat.le_refl _) N g c ps o w hc)

end Go.Proofs.Ythdjinicmnhgpaa

/-
A range over an iterator that hands out what it has laid down itself: the iterator's word tells of each thing handed out what the memory holds then; a loop whose body always goes on.
-/
namespace Go.Proofs.Ythdjinicmnhgpaa
open Go.RowKit

variable {F : Fence} {n : Nat} {P : Program}

/-- The iterator's word: what is handed out meets C in the memory as it is then. -/
def SeqTold {α : Type} (F : Fence) (n : Nat) (P : Program) (g : Nat) (lb : Array Value) (encs : α → Array Value) (C : α → World → Prop) (S : List α → Prop) (N B0 : Nat) (w : World) : Prop :=
  ∀ (l : Nat) (J : List α → World → Prop) (W : World), Below w.heap.size w W → AbidesFrom W.heap.size J →
    (∀ pre x W1, J pre W1 → pre.length < N → C x W1 → YieldAt F (n - 1) P l (encs x) W1 fun e W' => e = .returned (.bool true) ∧ J (pre ++ [x]) W' ∧ Below B0 W1 W') →
    J [] W →
    CallsIn F n P g (#[.func (.yield l) #[] #[]] ++ lb) W fun e W' => (∃ v, e = .returned v) ∧ ∃ xs, S xs ∧ J xs W'

/-- How a body that always goes on is left. -/
def goesOn {α : Type} (B B0 : Nat) (I : List α → World → Prop) (xs : List α) (W : World) : Exit → Act → World → Prop
  | .normal, _, W' => KeepsFrom B W W' ∧ Below B0 W W' ∧ I xs W'
  | _, _, _ => False

theorem below_putObj {B0 : Nat} (W : World) (l : Nat) (o' : Obj) (h : B0 ≤ l) : Below B0 W (W.putObj l o') :=
  have hg := grownBy_putObj' W l o'
  ⟨hg.os, hg.tape, hg.output, hg.size, fun k hk => by
    rcases Nat.lt_or_ge k W.heap.size with h1 | h1
    · exact hg.block k h1 (fun e => by cases e; omega)
    · exact World.putObj_heap_other (by omega)⟩

theorem wpIn_range_told {α : Type} {g : Operand} {ps : Array Tmp} {assign body : Code} {Q : Exit → Act → World → Prop} {a : Act} {w : World}
    (hro : F.round = none) (h1 : 1 ≤ n) {gf : Nat} {lb : Array Value} (hg : a.eval g = .func (.func gf) #[] lb) (hFg : F.fn gf) (eg : ∀ args w, (callFunc gf args).run P w = .ok (.enter gf args) w)
    {encs : α → Array Value} {C : α → World → Prop} {S : List α → Prop} {N B0 : Nat} {w0 : World} (hseq : SeqTold F (n - 1) P gf lb encs C S N B0 w0) (hB0 : B0 ≤ w.heap.size) (hb0 : Below w0.heap.size w0 w) (hps : ∀ x, (encs x).size = ps.size)
    (I : List α → World → Prop) (hI : OwnFrom w.heap.size I) (h0 : I [] w) (Ax : α → Act → World → Prop)
    (hAx : ∀ x a' W l o', Ax x a' W → w.heap.size ≤ l → (∃ o, W.heap[l]? = some o ∧ o.isCells = false) → Ax x a' (W.putObj l o'))
    (hassign : ∀ (l : Nat) (pre : List α) (x : α) (W : World) (K : Act → World → Prop), I pre W → C x W → (∀ a' W', KeepsFrom w.heap.size W W' → Below B0 W W' → I pre W' → Ax x a' W' → K a' W') →
      assign.wpIn (F.inRound l) (n - 1 - 1) P (Exit.then K (fun _ _ _ => False)) { tmps := (ps.zip (encs x)).foldl (fun t (p, v) => t.setIfInBounds p v) a.tmps, defers := [] } W)
    (hbody : ∀ (l : Nat) (pre : List α) (x : α) (a' : Act) (W : World), I pre W → pre.length < N → Ax x a' W → body.wpIn (F.inRound l) (n - 1 - 1) P (goesOn w.heap.size B0 I (pre ++ [x]) W) a' W)
    (hdone : ∀ (D : Nat) (xs : List α) (W : World), w.heap.size ≤ D → S xs → I xs W → W.heap[D]? = some (.deferred (some [])) → Q .normal { a with defers := { target := .collected D, args := #[] } :: a.defers } W) :
    (Code.rangeFunc g ps assign body).wpIn F n P Q a w := by
  refine wpIn_rangeFunc ?_
  intro fn hfn
  rw [hro]
  have hw0 : w0.heap.size ≤ w.heap.size := hb0.size
  obtain ⟨rec, hrec⟩ : ∃ rec : LoopState → Option Code → Loop, rec = fun st pe => { state := st, pending := pe, fn, tmps := a.tmps, params := ps, assign, body, defers := w.heap.size } := ⟨_, rfl⟩
  obtain ⟨W1, hW1⟩ : ∃ W1, (w.alloc (.deferred (some []))).alloc (.loop (rec .ready none)) = W1 := ⟨_, rfl⟩
  have hs1 : W1.heap.size = w.heap.size + 2 := by rw [← hW1]; simp
  have hL1 : W1.heap[w.heap.size + 1]? = some (.loop (rec .ready none)) := by
    rw [← hW1]; have := World.alloc_heap_new (w.alloc (.deferred (some []))) (.loop (rec .ready none)); rwa [World.size_alloc] at this
  have hK1 : W1.heap[w.heap.size]? = some (.deferred (some [])) := by
    rw [← hW1]; exact (Below.heap_alloc _ _ _ (by simp)).trans (World.alloc_heap_new w _)
  refine ⟨w.heap.size + 1, [{ target := .collected w.heap.size, args := #[] }], W1, { target := .fn (.func gf) lb, args := #[.func (.yield (w.heap.size + 1)) #[] #[]] }, W1, gf,
    #[.func (.yield (w.heap.size + 1)) #[] #[]] ++ lb, W1, ?_, ?_, ?_, ?_, fun _ => h1, ?_⟩
  · rw [← hW1, hrec]; exact run_enterLoop_outer _ _ _ _ _
  · simp only [resolve, hg]
    simp [go_sem]
  · intro f' hf'; simp [Target.leads] at hf'; subst hf'; exact hFg
  · simp [invoke, go_sem, eg]
  refine (hseq (w.heap.size + 1) (fun pre W => I pre W ∧ W.heap[w.heap.size + 1]? = some (.loop (rec .ready none)) ∧ W.heap[w.heap.size]? = some (.deferred (some []))) W1
    (by rw [← hW1]; exact hb0.trans ((((Below.refl _ w).alloc (Nat.le_refl _) _).alloc (by simp) _).mono hw0))
    (fun s A B row hs hg' hr => ⟨hI s A B row hs.1 hg' (fun r e => by obtain ⟨q1, o, q2, q3⟩ := hr r e; exact ⟨by omega, o, q2, Obj.not_cells_of_walk q3⟩), (grownBy_keeps hg' (fun r e => (hr r e).2) hs.2.1 rfl).trans hs.2.1, (grownBy_keeps hg' (fun r e => (hr r e).2) hs.2.2 rfl).trans hs.2.2⟩)
    ?_ ⟨by rw [← hW1]; exact hI.alloc _ (hI.alloc _ h0), hL1, hK1⟩).mono ?_
  · rintro pre x W ⟨hi, hl, hk⟩ hlen hc
    have hlt : w.heap.size + 1 < W.heap.size := (Array.getElem?_eq_some_iff.1 hl).1
    have hy := run_yield (P := P) (args := encs x) hl (by rw [hrec]; exact hps x)
    rw [hrec] at hy
    refine ⟨fn, _, assign, body, hy, roundIn_of_wpIn hfn (hassign _ pre x W _ hi hc (fun a' W' hkp hbl hi' hax => ?_))⟩
    have hl' : W'.heap[w.heap.size + 1]? = some (.loop (rec .ready none)) := hkp.same _ _ (by omega) hl rfl
    have hk' : W'.heap[w.heap.size]? = some (.deferred (some [])) := hkp.same _ _ (Nat.le_refl _) hk rfl
    have hlt' : w.heap.size + 1 < W'.heap.size := (Array.getElem?_eq_some_iff.1 hl').1
    refine ⟨_, run_beginRound hl' (by rw [hrec]), ?_⟩
    obtain ⟨V, hV⟩ : ∃ V, V = W'.putObj (w.heap.size + 1) (.loop { rec .ready none with state := .busy }) := ⟨_, rfl⟩
    have hl2 : V.heap[w.heap.size + 1]? = some (.loop { rec .ready none with state := .busy }) := by rw [hV]; exact World.putObj_heap_same hlt'
    have hk2 : V.heap[w.heap.size]? = some (.deferred (some [])) := by rw [hV]; exact (World.putObj_heap_other (by omega)).trans hk'
    have hVb : Below B0 W V := by rw [hV]; exact hbl.trans (below_putObj _ _ _ (by omega))
    have hVI : I pre V := by rw [hV]; exact hI.putObj _ hi' (by omega) hl' rfl
    have hVA : Ax x a' V := by rw [hV]; exact hAx x a' W' _ _ hax (by omega) ⟨_, hl', rfl⟩
    rw [← hV]
    refine wpIn_mono (hbody _ pre x a' V hVI hlen hVA) ?_
    rintro e a3 W3 hp
    cases e with
    | normal =>
      obtain ⟨hk3, hkp3, hi3⟩ := hp
      have hl3 := hk3.same _ _ (by omega) hl2 rfl
      have hr := run_endRound (P := P) none hl3
      refine ⟨_, _, hr, rfl, ⟨hI.putObj _ hi3 (by omega) hl3 rfl, ?_, (World.putObj_heap_other (by omega)).trans (hk3.same _ _ (Nat.le_refl _) hk2 rfl)⟩, (hVb.trans hkp3).trans (below_putObj _ _ _ (by omega))⟩
      rw [World.putObj_heap_same (Array.getElem?_eq_some_iff.1 hl3).1, hrec]; rfl
    | _ => exact hp.elim
  · rintro e W2 ⟨⟨v, rfl⟩, xs, hS, hi, hl, hk⟩
    exact ⟨none, _, by have := run_endLoop (P := P) hl (by rw [hrec]; simp); rw [hrec] at this; exact this, hdone _ xs _ (Nat.le_refl _) hS (hI.putObj _ hi (by omega) hl rfl) ((World.putObj_heap_other (by omega)).trans hk)⟩

end Go.Proofs.Ythdjinicmnhgpaa

/-
All relations of a catalog, handed out one after the other: the program's All; the laws' Back.
-/
namespace Go.Proofs.Ythdjinicmnhgpaa
open Go.RowKit Go.Shelf
attribute [local go_sem] Oper.semAt_some

def encA (q : RR) : Array Value := #[.agg #[.int .u32 q.r.oid, .int .u32 q.r.ver], .agg #[.int .u32 q.r.oid, .int .u32 q.r.ver, .string q.r.nm, .int .u8 q.r.id, .slice q.a q.r.cols.length q.c]]

theorem ext_grown {w w' : World} (h : Ext w w') : w.grownBy w' none := ⟨h.os, h.tape, h.output, h.size, fun k hk _ => h.block k hk⟩

set_option maxRecDepth 100000 in
set_option maxHeartbeats 4000000 in
theorem all1_in (F : Fence) (n : Nat) (hFe : F = Fence.wide) (hF : F.fn 81) (hOF : F.fn 51) (hro : F.round = none) (hn : 1 ≤ n) (l Bs : Nat) (w0 : World) (N g : Nat) (c : Value) (ps : List RR) (hc : Hid (Ca w0 N g c ps))
    (J : List RR → World → Prop) (W0 : World) (hJ : Hid (AbidesFrom W0.heap.size J))
    (hY : Hid (∀ pre x W, J pre W → pre.length < ps.length → x.in W → x.r.cols.length ≤ 1000 → YieldAt F (n - 1) Try.prog l (encA x) W fun e W' => e = .returned (.bool true) ∧ J (pre ++ [x]) W' ∧ Below w0.heap.size W W'))
    (hE : Hid (Ext w0 W0)) (hBs : W0.cell? ⟨Bs, 0, none⟩ = some (.pointer (some ⟨g, 0, none⟩))) (h0 : Hid (J [] W0)) :
    CallsIn F n Try.prog 81 #[.func (.yield l) #[] #[], .pointer (some ⟨Bs, 0, none⟩)] W0 fun e W' => (∃ v, e = .returned v) ∧ ∃ ys, ys.map RR.r = ps.map RR.r ∧ J ys W' := by
  obtain ⟨a, cap, rfl⟩ := hc.out.shape
  have HOW := Hid.mk' (fun m (p : RR) (hp : p ∈ ps) W (h : Ext w0 W) => (show CallsIn F m Try.prog 51 #[p.agg] W _ from by rw [hFe]; exact callsIn_wide.2 (pown_any p W ((hc.out.sl p hp).ext h) (by have := hc.out.n16 hp; omega))))
  have hB0 := hBs
  have g0 := (hc.out.ptr.ext hE.out).cell
  have z0 := (hc.out.ptr.ext hE.out).lt
  have HL := Hid.mk' hc.out.rl.row
  have hn64 := hc.out.n64
  have H16 := Hid.mk' (fun p hp => hc.out.n16 (p := p) hp)
  have mixed : Try.prog.follows .mixedOrders = true := by kernel_rfl
  clear hFe hc hBs
  refine callsIn_of_wp Try.func81 rfl hF ?_ hro
  simp only [Try.ntmps81, List.size_toArray, List.length_cons, List.length_nil, Nat.reduceAdd, Nat.reduceSub, Array.replicate_succ, Array.replicate_zero, List.push_toArray, List.append_toArray, List.nil_append, List.cons_append]
  gi_wp2
  clear hB0 g0 z0
  gi_loopw [10] (fun i wr => ∃ (k : Nat) (ys : List RR), k ≤ ps.length ∧ i = .int .i64 k ∧ Hid (ys.map RR.r = (ps.map RR.r).take k) ∧ Hid (J ys wr) ∧ Hid (Ext w0 wr)) (fun i _ => ps.length - (intOf i).toNat)
  case atStart => exact ⟨0, [], Nat.zero_le _, rfl, Hid.mk' rfl, h0, hE⟩
  case round =>
    obtain ⟨k, ys, hk, rfl, hys, hJs, hEw⟩ := hrel
    by_cases hlt : k < ps.length
    · obtain ⟨b, o, rfl, hb, hx⟩ := HL.out.at_ (i := k) (by simpa using hlt)
      obtain ⟨f0, f1, f2, f3, f4⟩ := RR.at_ hlt hx hb hEw.out
      have hbw : b < wr.heap.size := Nat.lt_of_lt_of_le hb hEw.out.size
      have hpm : ps[k] ∈ ps := List.getElem_mem hlt
      have HOWp := Hid.mk' (fun m W (h : Ext w0 W) => HOW.out m ps[k] hpm W h)
      have HN := Hid.mk' (H16.out _ hpm)
      have HLEN : Hid (ys.length < ps.length) := Hid.mk' (by have := congrArg List.length hys.out; simp at this; omega)
      have HT : Hid ((ps.map RR.r).take (k + 1) = (ps.map RR.r).take k ++ [ps[k].r]) := Hid.mk' (by rw [List.take_succ_eq_append_getElem (by simpa using hlt), List.getElem_map])
      obtain ⟨p, hp⟩ : ∃ p, p = ps[k] := ⟨_, rfl⟩
      rw [← hp] at f0 f1 f2 f3 f4 HOWp HN HT
      unfold RR.agg at HOWp
      clear hx hp hpm
      gi_wp2
      have HW1 : Hid (Ext wr (wr.alloc (.cells #[.int .u32 p.r.oid, .int .u32 p.r.ver, .string p.r.nm, .int .u8 p.r.id, .slice p.a p.r.cols.length p.c] 36))) := Hid.mk' ((Ext.refl wr).alloc _)
      have hbx := (Blk.new wr #[.int .u32 p.r.oid, .int .u32 p.r.ver, .string p.r.nm, .int .u8 p.r.id, .slice p.a p.r.cols.length p.c] 36).cell
      gi_region_with_o (first
        | (gi_at_call 51; refine (HOWp.out _ _ (hEw.out.trans (by (repeat (with_reducible (first | exact Ext.refl _ | assumption | exact held_left (by assumption) | apply Ext.drewN | apply Ext.drew | apply Ext.alloc | (refine Ext.setCell ?_ (by first | (simp; done) | (simp; omega) | omega) _) | (refine Ext.trans ?_ (by assumption)) | (refine Ext.trans ?_ (held_left (by assumption))))))))).mono ?_; rintro e w5 ⟨⟨r', a', c'⟩, rfl, hqr, hqo, hb5⟩; simp only at hqr; subst hqr; have HX5 := Hid.mk' (show Ext wr w5 by (repeat (with_reducible (first | exact Ext.refl _ | assumption | exact held_left (by assumption) | apply Ext.drewN | apply Ext.drew | apply Ext.alloc | (refine Ext.setCell ?_ (by first | (simp; done) | (simp; omega) | omega) _) | (refine Ext.trans ?_ (by assumption)) | (refine Ext.trans ?_ (held_left (by assumption))))))); have HQI := Hid.mk' (RR.owned.in hqo); have hbx5 := ((Blk.new wr #[.int .u32 p.r.oid, .int .u32 p.r.ver, .string p.r.nm, .int .u8 p.r.id, .slice p.a p.r.cols.length p.c] 36).ext (show Ext (wr.alloc (.cells #[.int .u32 p.r.oid, .int .u32 p.r.ver, .string p.r.nm, .int .u8 p.r.id, .slice p.a p.r.cols.length p.c] 36)) w5 by (repeat (with_reducible (first | exact Ext.refl _ | assumption | exact held_left (by assumption) | apply Ext.drewN | apply Ext.drew | apply Ext.alloc | (refine Ext.setCell ?_ (by first | (simp; done) | (simp; omega) | omega) _) | (refine Ext.trans ?_ (by assumption)) | (refine Ext.trans ?_ (held_left (by assumption)))))))).cell; obtain ⟨fn, tmps, assign, body, hy, hR⟩ := hY.out ys ⟨p.r, a', c'⟩ w5 (hJ.out _ _ _ none hJs.out (ext_grown HX5.out) (by simp)) HLEN.out HQI.out (by have := HN.out; simp only; omega); simp only [encA] at hy; clear hqo hb5; try simp only)
        | (refine hR.mono ?_; rintro e W3 ⟨rfl, hJ3, hk3⟩))
      all_goals
        gi_wp2
        go_roundw
        case rel => exact ⟨k + 1, _, by omega, by go_num, Hid.mk' (by rw [List.map_append, hys.out, HT.out]; rfl), Hid.mk' hJ3, Hid.mk' (Below.trans (hEw.out.trans HX5.out) hk3)⟩
        case measure => simp [intOf]; omega
    · obtain rfl : k = ps.length := by omega
      have hys2 := hys.out
      rw [show ps.length = (ps.map RR.r).length by simp, List.take_length] at hys2
      gi_wp2
      go_end0
      exact ⟨⟨_, rfl⟩, ys, hys2, hJs.out⟩

theorem all_told (F : Fence) (n : Nat) (hFe : F = Fence.wide) (hF : F.fn 81) (hOF : F.fn 51) (hro : F.round = none) (hn : 1 ≤ n) (Bs : Nat) (w0 w : World) (N g : Nat) (c : Value) (ps : List RR) (hc : Ca w0 N g c ps) (hE : Ext w0 w) (hBs : w.cell? ⟨Bs, 0, none⟩ = some (.pointer (some ⟨g, 0, none⟩))) (hBz : Bs < w.heap.size) :
    SeqTold F n Try.prog 81 #[.pointer (some ⟨Bs, 0, none⟩)] encA (fun x W => x.in W ∧ x.r.cols.length ≤ 1000) (fun ys => ys.map RR.r = ps.map RR.r) ps.length w0.heap.size w := fun l J W hW hJ hY h0 =>
  all1_in F n hFe hF hOF hro hn l Bs w0 N g c ps hc J W hJ (fun pre x W1 hj hn h1 h2 => hY pre x W1 hj hn ⟨h1, h2⟩) (Below.trans hE (hW.mono hE.size)) ((hW.cell (p := ⟨Bs, 0, none⟩) hBz).trans hBs) h0

set_option maxHeartbeats 1000000 in
theorem all_in (F : Fence) (n : Nat) (hF : F.fn 52) (hro : F.round = none) (g : Nat) (w : World) :
    CallsIn F n Try.prog 52 #[.pointer (some ⟨g, 0, none⟩)] w fun e w' => e = .returned (.func (.func 81) #[] #[.pointer (some ⟨w.heap.size, 0, none⟩)]) ∧ w' = w.alloc (.cells #[.pointer (some ⟨g, 0, none⟩)] 27) := by
  refine callsIn_of_wp Try.func52 rfl hF ?_ hro
  simp only [Try.ntmps52, List.size_toArray, List.length_cons, List.length_nil, Nat.reduceAdd, Nat.reduceSub, Array.replicate_succ, Array.replicate_zero, List.push_toArray, List.append_toArray, List.nil_append, List.cons_append]
  gi_wp2
  go_ret
  exact ⟨rfl, rfl⟩

end Go.Proofs.Ythdjinicmnhgpaa

/-
The laws' Back of a relation.
-/
namespace Go.Proofs.Ythdjinicmnhgpaa
open Go.RowKit

theorem Try.infoRCol : (Try.prog.info? 122).map (fun i => (i.zero, i.size, i.bytes)) = some (some (.agg #[.string ByteArray.empty, .int .u8 0, .bool false]), 3, 24) := by kernel_rfl

set_option maxRecDepth 100000 in set_option maxHeartbeats 1600000 in
theorem back8_any (oid ver : Int) (nm : ByteArray) (id : Int) (cols : List Col) (a : Option Addr) (cap : Nat) (w : World) (hl : Sl w (.slice a cols.length cap) 3 (cols.map Col.cells)) (hlen : cols.length ≤ 1000) :
    Calls Try.prog 23 #[.agg #[.int .u32 oid, .int .u32 ver, .string nm, .int .u8 id, .slice a cols.length cap]] w fun e w' => ∃ a' cap', e = .returned (.agg #[.int .u32 oid, .int .u32 ver, .string nm, .int .u8 id, .slice a' cols.length cap']) ∧ cols.length ≤ cap' ∧ w'.ownsRow w.heap.size 122 3 (.slice a' cols.length cap') cols.length (cols.map Col.cells).flatten ∧ Ext w w' := by
  have HL := Hid.mk' hl
  clear hl
  obtain ⟨i0, hi, hz0, hz1, hz2⟩ := info_parts Try.infoRCol
  go_enter Try.func23, Try.ntmps23
  go_wp2
  go_loopw [4] (fun i wr => ∃ (k : Nat) (v : Value), k ≤ cols.length ∧ i = .int .i64 k ∧ Hid (wr.ownsRow (w.heap.size + 3) 122 3 v k ((cols.map Col.cells).take k).flatten) ∧ Blk wr w.heap.size #[.int .u32 oid, .int .u32 ver, .string nm, .int .u8 id, .slice a cols.length cap] 36 ∧ Blk wr (w.heap.size + 1) #[.int .u32 0, .int .u32 0, .string ⟨#[]⟩, .int .u8 0, .slice none 0 0] 49 ∧ Blk wr (w.heap.size + 1 + 1) #[.int .u32 oid, .int .u32 ver, .string nm, .int .u8 id, v] 49 ∧ Hid (Ext w wr)) (fun i _ => cols.length - (intOf i).toNat)
  case atStart => exact ⟨0, .slice none 0 0, Nat.zero_le _, rfl, World.ownsRow_nil _ _ _ _, ((Blk.new _ _ _).alloc _).alloc _, (Blk.new' _ _ (by simp)).alloc _, Blk.new' _ _ (by simp), Hid.mk' (by (repeat (with_reducible (first | exact Ext.refl _ | assumption | exact held_left (by assumption) | apply Ext.drewN | apply Ext.drew | apply Ext.alloc | (refine Ext.setCell ?_ (by first | (simp; done) | (simp; omega) | omega) _) | (refine Ext.trans ?_ (by assumption)) | (refine Ext.trans ?_ (held_left (by assumption)))))))⟩
  case round =>
    obtain ⟨k, v, hk, rfl, hown, hB0, hB1, hB2, hE⟩ := hrel
    by_cases hlt : k < cols.length
    · obtain ⟨b, o, rfl, hb, hc⟩ := HL.out.at_ (i := k) (by simpa using hlt)
      obtain ⟨f0, f1, f2⟩ := Col.at_ hlt hc hb hE.out
      have hT := Hid.mk' (flat_snoc (f := Col.cells) hlt)
      obtain ⟨c, hcc⟩ : ∃ c, c = cols[k] := ⟨_, rfl⟩
      rw [← hcc] at f0 f1 f2 hT
      have hbw : b < wr.heap.size := Nat.lt_of_lt_of_le hb hE.out.size
      have HC := Hid.mk' hcc
      clear hcc hc
      have g0 := hB0.cell
      have g2 := hB2.cell
      have z0 := hB0.lt
      have z1 := hB1.lt
      have z2 := hB2.lt
      have HB0 := Hid.mk' hB0
      have HB1 := Hid.mk' hB1
      have HB2 := Hid.mk' hB2
      clear hB0 hB1 hB2
      go_wp2
      refine wp_region_head 22 (fun w' => Ext (wr) w' ∧ (∀ b o, b < (wr).heap.size → w'.cell? ⟨b, o, none⟩ = (wr).cell? ⟨b, o, none⟩) ∧ (∀ b o, b < (wr).heap.size → w'.frozen? ⟨b, o, none⟩ = (wr).frozen? ⟨b, o, none⟩)) (by kernel_rfl) (by decide) ?_
      have hA0 : Hid ((fun w' => Ext (wr) w' ∧ (∀ b o, b < (wr).heap.size → w'.cell? ⟨b, o, none⟩ = (wr).cell? ⟨b, o, none⟩) ∧ (∀ b o, b < (wr).heap.size → w'.frozen? ⟨b, o, none⟩ = (wr).frozen? ⟨b, o, none⟩)) wr.drew) := held_of (by (repeat (with_reducible (first | exact Ext.refl _ | assumption | exact held_left (by assumption) | apply Ext.drewN | apply Ext.drew | apply Ext.alloc | (refine Ext.setCell ?_ (by first | (simp; done) | (simp; omega) | omega) _) | (refine Ext.trans ?_ (by assumption)) | (refine Ext.trans ?_ (held_left (by assumption)))))))
      (refine wpHd_take (i := 0) (v := ?_) rfl (by kernel_rfl) (by kernel_rfl) (by kernel_rfl) (fun _ _ _ h => h) (Or.inl ⟨by rfl, ?_⟩) hA0.out ?_; rotate_left 1; · (intro w' hS'; (obtain ⟨hEs', hcs', hfs'⟩ := hS'); go_simp; try with_reducible rfl))
      (refine wpHd_take (i := 1) (v := ?_) rfl (by kernel_rfl) (by kernel_rfl) (by kernel_rfl) (fun _ _ _ h => h) (Or.inl ⟨by rfl, ?_⟩) hA0.out ?_; rotate_left 1; · (intro w' hS'; (obtain ⟨hEs', hcs', hfs'⟩ := hS'); go_simp; try with_reducible rfl))
      (refine wpHd_take (i := 2) (v := ?_) rfl (by kernel_rfl) (by kernel_rfl) (by kernel_rfl) (fun _ _ _ h => h) (Or.inl ⟨by rfl, ?_⟩) hA0.out ?_; rotate_left 1; · (intro w' hS'; (obtain ⟨hEs', hcs', hfs'⟩ := hS'); go_simp; try with_reducible rfl))
      (refine wpHd_take (i := 3) (v := ?_) rfl (by kernel_rfl) (by kernel_rfl) (by kernel_rfl) (fun _ _ _ h => h) (Or.inl ⟨by rfl, ?_⟩) hA0.out ?_; rotate_left 1; · (intro w' hS'; (obtain ⟨hEs', hcs', hfs'⟩ := hS'); go_simp; try with_reducible rfl))
      (refine wpHd_take (i := 4) (v := ?_) rfl (by kernel_rfl) (by kernel_rfl) (by kernel_rfl) (fun _ _ _ h => h) (Or.inl ⟨by rfl, ?_⟩) hA0.out ?_; rotate_left 1; · (intro w' hS'; (obtain ⟨hEs', hcs', hfs'⟩ := hS'); go_simp; try with_reducible rfl))
      (refine wpHd_take (i := 5) (v := ?_) rfl (by kernel_rfl) (by kernel_rfl) (by kernel_rfl) (fun _ _ _ h => h) (Or.inl ⟨by rfl, ?_⟩) hA0.out ?_; rotate_left 1; · (intro w' hS'; (obtain ⟨hEs', hcs', hfs'⟩ := hS'); go_simp; try with_reducible rfl))
      (refine wpHd_take (i := 6) (v := ?_) rfl (by kernel_rfl) (by kernel_rfl) (by kernel_rfl) (fun _ _ _ h => h) (Or.inl ⟨by rfl, ?_⟩) hA0.out ?_; rotate_left 1; · (intro w' hS'; (obtain ⟨hEs', hcs', hfs'⟩ := hS'); go_simp; try with_reducible rfl))
      (refine wpHd_take (i := 7) (v := ?_) rfl (by kernel_rfl) (by kernel_rfl) (by kernel_rfl) (fun _ _ _ h => h) (Or.inl ⟨by rfl, ?_⟩) hA0.out ?_; rotate_left 1; · (intro w' hS'; (obtain ⟨hEs', hcs', hfs'⟩ := hS'); go_simp; try with_reducible rfl))
      (refine wpHd_take (i := 8) (v := ?_) rfl (by kernel_rfl) (by kernel_rfl) (by kernel_rfl) (fun _ _ _ h => h) (Or.inl ⟨by rfl, ?_⟩) hA0.out ?_; rotate_left 1; · (intro w' hS'; (obtain ⟨hEs', hcs', hfs'⟩ := hS'); go_simp; try with_reducible rfl))
      (refine wpHd_take (i := 9) (v := ?_) rfl (by kernel_rfl) (by kernel_rfl) (by kernel_rfl) (fun _ _ _ h => h) (Or.inl ⟨by rfl, ?_⟩) hA0.out ?_; rotate_left 1; · (intro w' hS'; (obtain ⟨hEs', hcs', hfs'⟩ := hS'); go_simp; try with_reducible rfl))
      (refine wpHd_take (i := 10) (v := ?_) rfl (by kernel_rfl) (by kernel_rfl) (by kernel_rfl) (fun _ _ _ h => h) (Or.inl ⟨by rfl, ?_⟩) hA0.out ?_; rotate_left 1; · (intro w' hS'; (obtain ⟨hEs', hcs', hfs'⟩ := hS'); go_simp; try with_reducible rfl))
      (refine wpHd_take (i := 11) (v := ?_) rfl (by kernel_rfl) (by kernel_rfl) (by kernel_rfl) (fun _ _ _ h => h) (Or.inl ⟨by rfl, ?_⟩) hA0.out ?_; rotate_left 1; · (intro w' hS'; (obtain ⟨hEs', hcs', hfs'⟩ := hS'); go_simp; try with_reducible rfl))
      (refine wpHd_take (i := 12) (v := ?_) rfl (by kernel_rfl) (by kernel_rfl) (by kernel_rfl) (fun _ _ _ h => h) (Or.inl ⟨by rfl, ?_⟩) hA0.out ?_; rotate_left 1; · (intro w' hS'; (obtain ⟨hEs', hcs', hfs'⟩ := hS'); go_simp; try with_reducible rfl))
      (refine wpHd_take (i := 13) (v := ?_) rfl (by kernel_rfl) (by kernel_rfl) (by kernel_rfl) (fun _ _ _ h => h) (Or.inl ⟨by rfl, ?_⟩) hA0.out ?_; rotate_left 1; · (intro w' hS'; (obtain ⟨hEs', hcs', hfs'⟩ := hS'); go_simp; try with_reducible rfl))
      (refine wpHd_take (i := 14) (v := ?_) rfl (by kernel_rfl) (by kernel_rfl) (by kernel_rfl) (fun _ _ _ h => h) (Or.inl ⟨by rfl, ?_⟩) hA0.out ?_; rotate_left 1; · (intro w' hS'; (obtain ⟨hEs', hcs', hfs'⟩ := hS'); go_simp; try with_reducible rfl))
      (refine wpHd_take (i := 15) (v := ?_) rfl (by kernel_rfl) (by kernel_rfl) (by kernel_rfl) (fun _ _ _ h => h) (Or.inl ⟨by rfl, ?_⟩) hA0.out ?_; rotate_left 1; · (intro w' hS'; (obtain ⟨hEs', hcs', hfs'⟩ := hS'); go_simp; try with_reducible rfl))
      (refine wpHd_take (i := 16) (v := ?_) rfl (by kernel_rfl) (by kernel_rfl) (by kernel_rfl) (fun _ _ _ h => h) (Or.inl ⟨by rfl, ?_⟩) hA0.out ?_; rotate_left 1; · (intro w' hS'; (obtain ⟨hEs', hcs', hfs'⟩ := hS'); go_simp; try with_reducible rfl))
      (refine wpHd_take (i := 17) (v := ?_) rfl (by kernel_rfl) (by kernel_rfl) (by kernel_rfl) (fun _ _ _ h => h) (Or.inl ⟨by rfl, ?_⟩) hA0.out ?_; rotate_left 1; · (intro w' hS'; (obtain ⟨hEs', hcs', hfs'⟩ := hS'); go_simp; try with_reducible rfl))
      (refine wpHd_take (i := 18) (v := ?_) rfl (by kernel_rfl) (by kernel_rfl) (by kernel_rfl) (fun _ _ _ h => h) (Or.inl ⟨by rfl, ?_⟩) hA0.out ?_; rotate_left 1; · (intro w' hS'; (obtain ⟨hEs', hcs', hfs'⟩ := hS'); go_simp; try with_reducible rfl))
      (refine wpHd_take (i := 19) (v := ?_) rfl (by kernel_rfl) (by kernel_rfl) (by kernel_rfl) (fun _ _ _ h => h) (Or.inl ⟨by rfl, ?_⟩) hA0.out ?_; rotate_left 1; · (intro w' hS'; (obtain ⟨hEs', hcs', hfs'⟩ := hS'); go_simp; try with_reducible rfl))
      (refine wpHd_take (i := 20) (v := ?_) rfl (by kernel_rfl) (by kernel_rfl) (by kernel_rfl) (fun _ _ _ h => h) (Or.inl ⟨by rfl, ?_⟩) hA0.out ?_; rotate_left 1; · (intro w' hS'; (obtain ⟨hEs', hcs', hfs'⟩ := hS'); go_simp; try with_reducible rfl))
      refine wpHd_one (i := 21) rfl rfl (by kernel_rfl) (fun K hK => ?_)
      go_simp
      refine hK.out _ _ (held_of (by (repeat (with_reducible (first | exact Ext.refl _ | assumption | exact held_left (by assumption) | apply Ext.drewN | apply Ext.drew | apply Ext.alloc | (refine Ext.setCell ?_ (by first | (simp; done) | (simp; omega) | omega) _) | (refine Ext.trans ?_ (by assumption)) | (refine Ext.trans ?_ (held_left (by assumption)))))))) (fun hA => ?_)
      clear hK K hA hA0
      refine wpHd_tail (by kernel_rfl) ?_
      simp only [List.drop_succ_cons, List.drop_zero]
      have hob := owns_ne hown.out (show w.heap.size + 1 + 1 < w.heap.size + 3 by omega)
      go_wp2_with (at_builtin; refine wpList_append_lies _ rfl _ _ 47 rfl (w.heap.size + 3) 122 i0 _ 3 24 Try.underlying47 hi hz0 hz1 hz2 rfl (by decide) _ _ _ rfl (owns_ext hown.out (by (repeat (with_reducible (first | exact Ext.refl _ | assumption | exact held_left (by assumption) | apply Ext.drewN | apply Ext.drew | apply Ext.alloc | (refine Ext.setCell ?_ (by first | (simp; done) | (simp; omega) | omega) _) | (refine Ext.trans ?_ (by assumption)) | (refine Ext.trans ?_ (held_left (by assumption)))))))) ⟨_, 0, none⟩ 1 1 c.cells rfl rfl ?c1 ?c2 (by decide) ?c3 ?c4 ?c5 _ rfl ?_)
      case c1 => exact cells_new _ #[.string c.nm, .int .u8 c.ty, .bool c.key] _
      case c2 => intro u hu; simp [Col.cells] at hu; rcases hu with rfl | rfl | rfl <;> rfl
      case c3 => unfold maxLen; omega
      case c4 => omega
      case c5 => simp; omega
      intro g' cap' w2 hown' hgrow _ _
      have hE1 : Ext wr (wr.drew.alloc (.cells #[.string c.nm, .int .u8 c.ty, .bool c.key] 122)) := by (repeat (with_reducible (first | exact Ext.refl _ | assumption | exact held_left (by assumption) | apply Ext.drewN | apply Ext.drew | apply Ext.alloc | (refine Ext.setCell ?_ (by first | (simp; done) | (simp; omega) | omega) _) | (refine Ext.trans ?_ (by assumption)) | (refine Ext.trans ?_ (held_left (by assumption))))))
      have HE2 : Hid (Ext w w2) := Hid.mk' (Below.grown (hE.out.trans hE1) hgrow (hE.out.trans hE1).size (fun g hg => by have := (hown.out.lt g hg).1; omega))
      have hsz2 := hgrow.size
      have HB0' := Hid.mk' ((HB0.out.ext hE1).grown hgrow (owns_ne hown.out (by omega)))
      have HB1' := Hid.mk' ((HB1.out.ext hE1).grown hgrow (owns_ne hown.out (by omega)))
      have hB2' := (HB2.out.ext hE1).grown hgrow hob
      have g2' := hB2'.cell
      have g2f := hB2'.frozen
      have z2' := hB2'.lt
      have HB2' := Hid.mk' hB2'
      have HO := Hid.mk' hown'
      clear hB2' hown' hgrow hE1 hob
      go_wp2
      go_roundw
      case rel => exact ⟨k + 1, _, by omega, by go_num, Hid.mk' (by rw [hT.out]; exact owns_set (p := ⟨w.heap.size + 1 + 1, 4, none⟩) HO.out (by show w.heap.size + 1 + 1 < _; omega) _), HB0'.out.other _ _ (by show w.heap.size ≠ w.heap.size + 1 + 1; omega), HB1'.out.other _ _ (by show w.heap.size + 1 ≠ w.heap.size + 1 + 1; omega), HB2'.out.set 4 _, Hid.mk' (HE2.out.setCell (by simp; omega) _)⟩
      case measure => simp [intOf]; omega
    · have hkk : k = cols.length := by omega
      subst hkk
      rw [show cols.length = (cols.map Col.cells).length by simp, List.take_length] at hown
      rw [List.length_map] at hown
      obtain ⟨a', c', rfl⟩ := owns_shape hown.out
      have g0 := hB0.cell
      have z0 := hB0.lt
      have g1 := hB1.cell
      have g1f := hB1.frozen
      have g2 := hB2.cell
      have z1 := hB1.lt
      have z2 := hB2.lt
      clear hB0 hB1 hB2
      go_wp2
      simp [bodyPost, results, Try.results23, go_sem, *]
      refine ⟨_, _, ⟨rfl, rfl⟩, owns_cap hown.out, owns_base (base := w.heap.size + 3) ?_ (by omega), ?_⟩
      · have hown := hown.out
        repeat (with_reducible (first | exact hown | refine owns_set ?_ (by show w.heap.size + 1 < _; omega) _))
      · have hE := hE.out
        (repeat (with_reducible (first | exact Ext.refl _ | assumption | exact held_left (by assumption) | apply Ext.drewN | apply Ext.drew | apply Ext.alloc | (refine Ext.setCell ?_ (by first | (simp; done) | (simp; omega) | omega) _) | (refine Ext.trans ?_ (by assumption)) | (refine Ext.trans ?_ (held_left (by assumption))))))


def RR.rowned (N : Nat) (W : World) (q : RR) : Prop := W.ownsRow N 122 3 (.slice q.a q.r.cols.length q.c) q.r.cols.length (q.r.cols.map Col.cells).flatten
theorem RR.rowned.in {N : Nat} {W : World} {q : RR} (h : q.rowned N W) : q.in W := Sl.of_owns (base := N) (e := 122) (by rw [List.length_map]; exact h) (by intro xs hxs; simp at hxs; obtain ⟨_, _, rfl⟩ := hxs; rfl)
theorem RR.rowned.at_ {N : Nat} {W : World} {q : RR} (h : q.rowned N W) {b o : Nat} (e : q.a = some ⟨b, o, none⟩) : N ≤ b ∧ b < W.heap.size := h.lt b (by rw [e]; rfl)
theorem RR.rowned.ext {N : Nat} {W W' : World} {q : RR} (h : q.rowned N W) (he : Ext W W') : q.rowned N W' := owns_ext h he
theorem RR.rowned.mono {N M : Nat} {W : World} {q : RR} (h : q.rowned N W) (hm : M ≤ N) : q.rowned M W := owns_base h hm
theorem pback_own (p : RR) (w : World) (hp : p.in w) (hlen : p.r.cols.length ≤ 1000) :
    Calls Try.prog 23 #[p.agg] w fun e w' => ∃ q : RR, e = .returned q.agg ∧ q.r = p.r ∧ q.rowned w.heap.size w' ∧ Ext w w' := by
  obtain ⟨⟨oid, ver, nm, id, cols⟩, a, cap⟩ := p
  refine (back8_any oid ver nm id cols a cap w hp hlen).mono fun e w' h => ?_
  obtain ⟨a', c', h1, h2, h3, h4⟩ := h
  exact ⟨⟨⟨oid, ver, nm, id, cols⟩, a', c'⟩, h1, rfl, h3, h4⟩
theorem pback_any (p : RR) (w : World) (hp : p.in w) (hlen : p.r.cols.length ≤ 1000) :
    Calls Try.prog 23 #[p.agg] w fun e w' => ∃ q : RR, e = .returned q.agg ∧ q.r = p.r ∧ q.in w' ∧ (∀ b o, q.a = some ⟨b, o, none⟩ → w.heap.size ≤ b) ∧ Ext w w' := by
  obtain ⟨⟨oid, ver, nm, id, cols⟩, a, cap⟩ := p
  refine (back8_any oid ver nm id cols a cap w hp hlen).mono fun e w' h => ?_
  obtain ⟨a', c', h1, h2, h3, h4⟩ := h
  exact ⟨⟨⟨oid, ver, nm, id, cols⟩, a', c'⟩, h1, rfl, Sl.of_owns (base := w.heap.size) (e := 122) (by rw [List.length_map]; exact h3) (by intro xs hxs; simp at hxs; obtain ⟨_, _, rfl⟩ := hxs; rfl), fun b o e => (h3.lt b (by rw [show a' = some ⟨b, o, none⟩ from e]; rfl)).1, h4⟩

end Go.Proofs.Ythdjinicmnhgpaa
