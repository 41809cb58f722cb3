/-
All relations of a catalog, handed out one after the other: the program's All; the laws' Back.
-/
import Derived.Test.YtjnafppkbhldlaaGreatP10
set_option maxRecDepth 100000
set_option maxHeartbeats 16000000
namespace Go.Proofs.YtjnafppkbhldlaaGreat
open Go.RowKit Go.Shelf
attribute [local go_sem] Oper.semAt_some
end Go.Proofs.YtjnafppkbhldlaaGreat
namespace Go.Proofs.YtjnafppkbhldlaaGreat
open Go.RowKit
def RR.rowned (N : Nat) (W : World) (q : RR) : Prop := W.ownsRow N 202 3 (.slice q.a q.r.cols.length q.c) q.r.cols.length (q.r.cols.map Col.cells).flatten
theorem RR.rowned.in {N : Nat} {W : World} {q : RR} (h : q.rowned N W) : q.in W := Sl.of_owns (base := N) (e := 202) (by rw [List.length_map]; exact h) (by intro xs hxs; simp at hxs; obtain ⟨_, _, rfl⟩ := hxs; rfl)
theorem RR.rowned.at_ {N : Nat} {W : World} {q : RR} (h : q.rowned N W) {b o : Nat} (e : q.a = some ⟨b, o, none⟩) : N ≤ b ∧ b < W.heap.size := h.lt b (by rw [e]; rfl)
theorem RR.rowned.ext {N : Nat} {W W' : World} {q : RR} (h : q.rowned N W) (he : Ext W W') : q.rowned N W' := owns_ext h he
theorem RR.rowned.mono {N M : Nat} {W : World} {q : RR} (h : q.rowned N W) (hm : M ≤ N) : q.rowned M W := owns_base h hm
open Go.RowKit Go.Shelf
attribute [local go_sem] Oper.semAt_some
theorem run_equalIn_func_nil {P : Program} (w : World) (d : Nat) (t : TypeId) (f : Fn) (xs ys : Array Value) {p : Array TypeId} {r : Array TypeId} {v : Bool} (h : P.underlying t = some (.func p r v)) : (Op.equalIn (d + 1) t (.func f xs ys) .nilFunc).run P w = .ok false w := by
  simp [Op.equalIn, run_underlying h]
@[go_sem] theorem run_eql_func_nil {P : Program} (w : World) (t : TypeId) (f : Fn) (xs ys : Array Value) {p : Array TypeId} {r : Array TypeId} {v : Bool} (h : P.underlying t = some (.func p r v)) : (binOp .eql t (.func f xs ys) .nilFunc).run P w = .ok (.bool false) w := by
  have e : (Op.equal t (.func f xs ys) .nilFunc).run P w = .ok false w := by
    exact run_equalIn_func_nil w 9999 t f xs ys h
  simp [binOp, e]
structure BkR (W : World) (N : Nat) (rs : List Rl) (v : Value) (qs : List RR) : Prop where
  own : W.ownsRow N 79 5 v qs.length (qs.map RR.cells).flatten
  r : qs.map RR.r = rs
  sl : ∀ q ∈ qs, q.rowned N W
  ne : ∀ q ∈ qs, ∀ b o, q.a = some ⟨b, o, none⟩ → v.ownBlock ≠ some b
theorem BkR.nil (W : World) (N : Nat) : BkR W N [] (.slice none 0 0) [] := ⟨World.ownsRow_nil _ _ _ _, rfl, (fun q h => by cases h), (fun q h => by cases h)⟩
theorem BkR.ext {W W' : World} {N : Nat} {rs : List Rl} {qs : List RR} {v : Value} (h : BkR W N rs v qs) (he : Ext W W') : BkR W' N rs v qs := ⟨owns_ext h.own he, h.r, fun q hq => (h.sl q hq).ext he, h.ne⟩
theorem rowned_kp {S : Nat → Prop} {W W' : World} {N : Nat} {x : RR} (h2 : x.rowned N W) (hk1 : Kp S W W') (h3 : ∀ b o, x.a = some ⟨b, o, none⟩ → ¬ S b) : x.rowned N W' := by
  refine owns_kp h2 hk1 (fun b hb => ?_)
  obtain ⟨xr, xa, xc⟩ := x
  cases xa with
  | none => cases hb
  | some ad =>
    obtain ⟨b', o', sp⟩ := ad
    have hb' : b' = b := by simpa [Value.ownBlock] using hb
    subst hb'
    rcases h2.2 with ⟨hv, -⟩ | ⟨g, cap, cur, hv, -⟩
    · cases hv
    · simp only [Value.slice.injEq, Option.some.injEq, Addr.mk.injEq] at hv
      obtain ⟨⟨rfl, rfl, rfl⟩, -⟩ := hv
      exact h3 _ _ rfl
theorem BkR.kept {W W' : World} {N : Nat} {rs : List Rl} {qs : List RR} {v : Value} {row : Option Nat} (h : BkR W N rs v qs) (hg : W.grownBy W' row) (hr : ∀ r, row = some r → ∃ o : Obj, W.heap[r]? = some o ∧ o.isCells = false) : BkR W' N rs v qs :=
  ⟨owns_kept h.own hg hr, h.r, fun q hq => owns_kept (h.sl q hq) hg hr, h.ne⟩
theorem BkR.set {W : World} {N : Nat} {rs : List Rl} {qs : List RR} {v : Value} (h : BkR W N rs v qs) {p : Addr} (hp : p.block < N) (u : Value) : BkR (W.setCell p u) N rs v qs := ⟨owns_set h.own hp u, h.r, fun q hq => owns_set (h.sl q hq) hp u, h.ne⟩
theorem BkR.push {W W' : World} {N : Nat} {rs : List Rl} {qs : List RR} {v v' : Value} {q : RR} (h : BkR W N rs v qs) (hs : q.rowned N W) (hn : ∀ b o, q.a = some ⟨b, o, none⟩ → v.ownBlock ≠ some b)
    (hg : W.grownBy W' v.ownBlock) (hat : v'.ownBlock = v.ownBlock ∨ v'.ownBlock = some W.heap.size) (ho : W'.ownsRow N 79 5 v' (qs.length + 1) ((qs.map RR.cells).flatten ++ q.cells)) : BkR W' N (rs ++ [q.r]) v' (qs ++ [q]) := by
  have hall : ∀ x ∈ qs ++ [q], x.rowned N W ∧ ∀ b o, x.a = some ⟨b, o, none⟩ → v.ownBlock ≠ some b := fun x hx => by
    rcases List.mem_append.1 hx with hx | hx
    · exact ⟨h.sl x hx, h.ne x hx⟩
    · obtain rfl : x = q := by simpa using hx
      exact ⟨hs, hn⟩
  refine ⟨by simpa using ho, by rw [List.map_append, h.r]; rfl, fun x hx => rowned_kp (hall x hx).1 (Kp.of_grown hg) (hall x hx).2, fun x hx b o e => ?_⟩
  obtain ⟨h2, h3⟩ := hall x hx
  rcases hat with h4 | h4
  · rw [h4]; exact h3 b o e
  · rw [h4]; intro h5; injection h5 with h5
    have := (h2.at_ e).2; omega
theorem BkR.rl {W : World} {N : Nat} {rs : List Rl} {qs : List RR} {v : Value} (h : BkR W N rs v qs) : RL W v qs := ⟨Sl.of_owns (base := N) (e := 79) (by rw [List.length_map]; exact h.own) (RR.len qs), fun q hq => (h.sl q hq).in⟩
end Go.Proofs.YtjnafppkbhldlaaGreat
namespace Go.Proofs.YtjnafppkbhldlaaGreat
open Go.RowKit
theorem cget_is {N g : Nat} {c : Value} {ps : List RR} {o v : Int} {w : World} (hc : Ca w N g c ps) {x : Rl} (h : getR o v (ps.map RR.r) = some x) :
    Calls Tryz.prog 92 #[.pointer (some ⟨g, 0, none⟩), .agg #[.int .u32 o, .int .u32 v]] w fun e w' => ∃ q : RR, e = .returned (.tuple #[.agg #[.int .u32 x.oid, .int .u32 x.ver, .string x.nm, .int .u8 x.id, .slice q.a x.cols.length q.c], .bool true]) ∧ q.r = x ∧ q.owned w.heap.size w' ∧ Ext w w' := by
  refine (cget_any N g c ps o v w hc).mono fun e w' hq => ?_
  obtain ⟨q, h1, h2, h3, h4⟩ := hq
  have hh : hasR o v (ps.map RR.r) = true := by
    cases e2 : hasR o v (ps.map RR.r) with
    | true => rfl
    | false => rw [getR_none.2 e2] at h; cases h
  have hg : (getP o v ps).map RR.r = some x := (getP_map o v ps).trans h
  obtain ⟨p, hp, hpx⟩ := Option.map_eq_some_iff.1 hg
  rw [hp, Option.getD_some, hpx] at h2
  refine ⟨q, ?_, h2, h3, h4⟩
  rw [h1, hh]
  unfold RR.agg
  rw [h2]
end Go.Proofs.YtjnafppkbhldlaaGreat
