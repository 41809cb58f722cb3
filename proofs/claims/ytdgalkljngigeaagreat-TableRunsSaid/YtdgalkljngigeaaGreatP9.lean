/-
All relations of a catalog, handed out one after the other: the program's All; the laws' Back.
-/
import Derived.Maps.RangeWalk
import Derived.DeepKeys4
import Derived.Test.YtdgalkljngigeaaGreatP8
namespace Go.Proofs.YtdgalkljngigeaaGreat
open Go.RowKit Go.Shelf
attribute [local go_sem] Oper.semAt_some

def encA (q : RR) : Array Value := #[.agg #[.int .u32 q.r.oid, .int .u32 q.r.ver], .agg #[.int .u32 q.r.oid, .int .u32 q.r.ver, .string q.r.nm, .int .u8 q.r.id, .slice q.a q.r.cols.length q.c]]

theorem ext_grown {w w' : World} (h : Ext w w') : w.grownBy w' none := ⟨h.os, h.tape, h.output, h.size, fun k hk _ => h.block k hk⟩

set_option maxRecDepth 100000 in
set_option maxHeartbeats 4000000 in
theorem all1_in (F : Fence) (n : Nat) (hFe : F = Fence.wide) (hF : F.fn 59) (hOF : F.fn 60) (hro : F.round = none) (hn : 1 ≤ n) (l Bs : Nat) (w0 : World) (N g : Nat) (c : Value) (ps : List RR) (hc : Hid (Ca w0 N g c ps))
    (J : List RR → World → Prop) (W0 : World) (hJ : Hid (AbidesFrom W0.heap.size J))
    (hY : Hid (∀ pre x W, J pre W → pre.length < ps.length → x.in W → x.r.cols.length ≤ 1000 → (x.r ∈ ps.map RR.r ∧ x.r.cols.length ≤ x.c) → YieldAt F (n - 1) Tryz.prog l (encA x) W fun e W' => e = .returned (.bool true) ∧ J (pre ++ [x]) W' ∧ Below w0.heap.size W W'))
    (hE : Hid (Ext w0 W0)) (hBs : W0.cell? ⟨Bs, 0, none⟩ = some (.pointer (some ⟨g, 0, none⟩))) (h0 : Hid (J [] W0)) :
    CallsIn F n Tryz.prog 59 #[.func (.yield l) #[] #[], .pointer (some ⟨Bs, 0, none⟩)] W0 fun e W' => (∃ v, e = .returned v) ∧ ∃ ys, ys.map RR.r = ps.map RR.r ∧ J ys W' := by
  obtain ⟨a, cap, rfl⟩ := hc.out.shape
  have HOW := Hid.mk' (fun m (p : RR) (hp : p ∈ ps) W (h : Ext w0 W) => (show CallsIn F m Tryz.prog 60 #[p.agg] W _ from by rw [hFe]; exact callsIn_wide.2 (pown_any p W ((hc.out.sl p hp).ext h) (by have := hc.out.n16 hp; omega))))
  have hB0 := hBs
  have g0 := (hc.out.ptr.ext hE.out).cell
  have z0 := (hc.out.ptr.ext hE.out).lt
  have HL := Hid.mk' hc.out.rl.row
  have hn64 := hc.out.n64
  have H16 := Hid.mk' (fun p hp => hc.out.n16 (p := p) hp)
  have mixed : Tryz.prog.follows .mixedOrders = true := by kernel_rfl
  clear hFe hc hBs
  refine callsIn_of_wp Tryz.func59 rfl hF ?_ hro
  simp only [Tryz.ntmps59, List.size_toArray, List.length_cons, List.length_nil, Nat.reduceAdd, Nat.reduceSub, Array.replicate_succ, Array.replicate_zero, List.push_toArray, List.append_toArray, List.nil_append, List.cons_append]
  gi_wp2
  clear hB0 g0 z0
  gi_loopw [10] (fun i wr => ∃ (k : Nat) (ys : List RR), k ≤ ps.length ∧ i = .int .i64 k ∧ Hid (ys.map RR.r = (ps.map RR.r).take k) ∧ Hid (J ys wr) ∧ Hid (Ext w0 wr)) (fun i _ => ps.length - (intOf i).toNat)
  case atStart => exact ⟨0, [], Nat.zero_le _, rfl, Hid.mk' rfl, h0, hE⟩
  case round =>
    obtain ⟨k, ys, hk, rfl, hys, hJs, hEw⟩ := hrel
    by_cases hlt : k < ps.length
    · obtain ⟨b, o, rfl, hb, hx⟩ := HL.out.at_ (i := k) (by simpa using hlt)
      obtain ⟨f0, f1, f2, f3, f4⟩ := RR.at_ hlt hx hb hEw.out
      have hbw : b < wr.heap.size := Nat.lt_of_lt_of_le hb hEw.out.size
      have hpm : ps[k] ∈ ps := List.getElem_mem hlt
      have HOWp := Hid.mk' (fun m W (h : Ext w0 W) => HOW.out m ps[k] hpm W h)
      have HN := Hid.mk' (H16.out _ hpm)
      have HPM : Hid (ps[k].r ∈ ps.map RR.r) := Hid.mk' (List.mem_map_of_mem hpm)
      have HLEN : Hid (ys.length < ps.length) := Hid.mk' (by have := congrArg List.length hys.out; simp at this; omega)
      have HT : Hid ((ps.map RR.r).take (k + 1) = (ps.map RR.r).take k ++ [ps[k].r]) := Hid.mk' (by rw [List.take_succ_eq_append_getElem (by simpa using hlt), List.getElem_map])
      obtain ⟨p, hp⟩ : ∃ p, p = ps[k] := ⟨_, rfl⟩
      rw [← hp] at f0 f1 f2 f3 f4 HOWp HN HT HPM
      unfold RR.agg at HOWp
      clear hx hp hpm
      gi_wp2
      have HW1 : Hid (Ext wr (wr.alloc (.cells #[.int .u32 p.r.oid, .int .u32 p.r.ver, .string p.r.nm, .int .u8 p.r.id, .slice p.a p.r.cols.length p.c] 99))) := Hid.mk' ((Ext.refl wr).alloc _)
      have hbx := (Blk.new wr #[.int .u32 p.r.oid, .int .u32 p.r.ver, .string p.r.nm, .int .u8 p.r.id, .slice p.a p.r.cols.length p.c] 99).cell
      gi_region_with_o (first
        | (gi_at_call 60; refine (HOWp.out _ _ (hEw.out.trans (by exact eX))).mono ?_; rintro e w5 ⟨⟨r', a', c'⟩, rfl, hqr, hqo, hb5⟩; simp only at hqr; subst hqr; have HX5 := Hid.mk' (show Ext wr w5 by exact eX); have HQI := Hid.mk' (RR.owned.in hqo); have HQC := Hid.mk' (owns_cap hqo); have hbx5 := ((Blk.new wr #[.int .u32 p.r.oid, .int .u32 p.r.ver, .string p.r.nm, .int .u8 p.r.id, .slice p.a p.r.cols.length p.c] 99).ext (show Ext (wr.alloc (.cells #[.int .u32 p.r.oid, .int .u32 p.r.ver, .string p.r.nm, .int .u8 p.r.id, .slice p.a p.r.cols.length p.c] 99)) w5 by exact eX)).cell; obtain ⟨fn, tmps, assign, body, hy, hR⟩ := hY.out ys ⟨p.r, a', c'⟩ w5 (hJ.out _ _ _ none hJs.out (ext_grown HX5.out) (by simp)) HLEN.out HQI.out (by have := HN.out; simp only; omega) ⟨HPM.out, HQC.out⟩; simp only [encA] at hy; clear hqo hb5; try simp only)
        | (refine hR.mono ?_; rintro e W3 ⟨rfl, hJ3, hk3⟩))
      all_goals
        gi_wp2
        go_roundw
        case rel => exact ⟨k + 1, _, by omega, by go_num, Hid.mk' (by rw [List.map_append, hys.out, HT.out]; rfl), Hid.mk' hJ3, Hid.mk' (Below.trans (hEw.out.trans HX5.out) hk3)⟩
        case measure => simp [intOf]; omega
    · obtain rfl : k = ps.length := by omega
      have hys2 := hys.out
      rw [show ps.length = (ps.map RR.r).length by simp, List.take_length] at hys2
      gi_wp2
      go_end0
      exact ⟨⟨_, rfl⟩, ys, hys2, hJs.out⟩

theorem all_told (F : Fence) (n : Nat) (hFe : F = Fence.wide) (hF : F.fn 59) (hOF : F.fn 60) (hro : F.round = none) (hn : 1 ≤ n) (Bs : Nat) (w0 w : World) (N g : Nat) (c : Value) (ps : List RR) (hc : Ca w0 N g c ps) (hE : Ext w0 w) (hBs : w.cell? ⟨Bs, 0, none⟩ = some (.pointer (some ⟨g, 0, none⟩))) (hBz : Bs < w.heap.size) :
    SeqTold F n Tryz.prog 59 #[.pointer (some ⟨Bs, 0, none⟩)] encA (fun x W => x.in W ∧ x.r.cols.length ≤ 1000) (fun ys => ys.map RR.r = ps.map RR.r) ps.length w0.heap.size w := fun l J W hW hJ hY h0 =>
  all1_in F n hFe hF hOF hro hn l Bs w0 N g c ps hc J W hJ (fun pre x W1 hj hn h1 h2 _ => hY pre x W1 hj hn ⟨h1, h2⟩) (Below.trans hE (hW.mono hE.size)) ((hW.cell (p := ⟨Bs, 0, none⟩) hBz).trans hBs) h0
theorem allm_told (F : Fence) (n : Nat) (hFe : F = Fence.wide) (hF : F.fn 59) (hOF : F.fn 60) (hro : F.round = none) (hn : 1 ≤ n) (Bs : Nat) (w0 w : World) (N g : Nat) (c : Value) (ps : List RR) (hc : Ca w0 N g c ps) (hE : Ext w0 w) (hBs : w.cell? ⟨Bs, 0, none⟩ = some (.pointer (some ⟨g, 0, none⟩))) (hBz : Bs < w.heap.size) :
    SeqTold F n Tryz.prog 59 #[.pointer (some ⟨Bs, 0, none⟩)] encA (fun x W => x.in W ∧ x.r.cols.length ≤ 1000 ∧ x.r ∈ ps.map RR.r ∧ x.r.cols.length ≤ x.c) (fun ys => ys.map RR.r = ps.map RR.r) ps.length w0.heap.size w := fun l J W hW hJ hY h0 =>
  all1_in F n hFe hF hOF hro hn l Bs w0 N g c ps hc J W hJ (fun pre x W1 hj hn h1 h2 h3 => hY pre x W1 hj hn ⟨h1, h2, h3⟩) (Below.trans hE (hW.mono hE.size)) ((hW.cell (p := ⟨Bs, 0, none⟩) hBz).trans hBs) h0

set_option maxHeartbeats 1000000 in
theorem all_in (F : Fence) (n : Nat) (hF : F.fn 34) (hro : F.round = none) (g : Nat) (w : World) :
    CallsIn F n Tryz.prog 34 #[.pointer (some ⟨g, 0, none⟩)] w fun e w' => e = .returned (.func (.func 59) #[] #[.pointer (some ⟨w.heap.size, 0, none⟩)]) ∧ w' = w.alloc (.cells #[.pointer (some ⟨g, 0, none⟩)] 26) := by
  refine callsIn_of_wp Tryz.func34 rfl hF ?_ hro
  simp only [Tryz.ntmps34, List.size_toArray, List.length_cons, List.length_nil, Nat.reduceAdd, Nat.reduceSub, Array.replicate_succ, Array.replicate_zero, List.push_toArray, List.append_toArray, List.nil_append, List.cons_append]
  gi_wp2
  go_ret
  exact ⟨rfl, rfl⟩

end Go.Proofs.YtdgalkljngigeaaGreat


/-
The laws' Back of a relation.
-/
namespace Go.Proofs.YtdgalkljngigeaaGreat
open Go.RowKit

theorem Tryz.infoRCol : (Tryz.prog.info? 129).map (fun i => (i.zero, i.size, i.bytes)) = some (some (.agg #[.string ByteArray.empty, .int .u8 0, .bool false]), 3, 24) := by kernel_rfl

def RR.rowned (N : Nat) (W : World) (q : RR) : Prop := W.ownsRow N 129 3 (.slice q.a q.r.cols.length q.c) q.r.cols.length (q.r.cols.map Col.cells).flatten
theorem RR.rowned.in {N : Nat} {W : World} {q : RR} (h : q.rowned N W) : q.in W := Sl.of_owns (base := N) (e := 129) (by rw [List.length_map]; exact h) (by intro xs hxs; simp at hxs; obtain ⟨_, _, rfl⟩ := hxs; rfl)
theorem RR.rowned.at_ {N : Nat} {W : World} {q : RR} (h : q.rowned N W) {b o : Nat} (e : q.a = some ⟨b, o, none⟩) : N ≤ b ∧ b < W.heap.size := h.lt b (by rw [e]; rfl)
theorem RR.rowned.ext {N : Nat} {W W' : World} {q : RR} (h : q.rowned N W) (he : Ext W W') : q.rowned N W' := owns_ext h he
theorem RR.rowned.mono {N M : Nat} {W : World} {q : RR} (h : q.rowned N W) (hm : M ≤ N) : q.rowned M W := owns_base h hm
end Go.Proofs.YtdgalkljngigeaaGreat


/-
All relations of a catalog, as the document's: the laws' Back.
-/
namespace Go.Proofs.YtdgalkljngigeaaGreat
open Go.RowKit Go.Shelf
attribute [local go_sem] Oper.semAt_some

theorem run_equalIn_func_nil {P : Program} (w : World) (d : Nat) (t : TypeId) (f : Fn) (xs ys : Array Value) {p : Array TypeId} {r : Array TypeId} {v : Bool} (h : P.underlying t = some (.func p r v)) : (Op.equalIn (d + 1) t (.func f xs ys) .nilFunc).run P w = .ok false w := by
  simp [Op.equalIn, run_underlying h]
@[go_sem] theorem run_eql_func_nil {P : Program} (w : World) (t : TypeId) (f : Fn) (xs ys : Array Value) {p : Array TypeId} {r : Array TypeId} {v : Bool} (h : P.underlying t = some (.func p r v)) : (binOp .eql t (.func f xs ys) .nilFunc).run P w = .ok (.bool false) w := by
  have e : (Op.equal t (.func f xs ys) .nilFunc).run P w = .ok false w := by
    exact run_equalIn_func_nil w 9999 t f xs ys h
  simp [binOp, e]

theorem stepIn_append {F : Fence} {n : Nat} {P : Program} {ops : Array Oper} {o : Oper} {a : Act} {w : World} {K : Act → World → Prop} {Q : Exit → Act → World → Prop} {E : Prop} (hg : o.guard = none) (s x : Operand) (t : TypeId) (hop : o.op = Op.call { callee := Callee.builtin Builtin.append, args := #[s, x], argTypes := #[t, t] })
    (v u : Value) (hs : a.eval s = v) (hx : a.eval x = u) {v' : Value} {w' : World} (hrun : (Builtin.append_ #[t, t] o.type #[v, u]).run P w = .ok v' w') (hK : K (a.put o.dst v') w') : if Region.wanted o (yielded ops a.tmps) = true then Oper.wpIn F n P o a w K Q else E := by
  rw [if_pos (by simp [Region.wanted, hg])]
  unfold Oper.wpIn
  refine ⟨?_, ?_⟩
  · simp [Oper.about, hop, resolve, Target.leads, Sem.run_pure]
  · rw [Oper.semAt_plain F _ _ (by rw [hop]; intro c hc'; cases hc')]
    simp [execOp, hop, resolve, invoke, builtin, hs, hx, hrun, Result.andThen]
    exact hK

/-- Relations of the document of the call's own, in a row of its own. -/
structure BkR (W : World) (N : Nat) (rs : List Rl) (v : Value) (qs : List RR) : Prop where
  own : W.ownsRow N 51 5 v qs.length (qs.map RR.cells).flatten
  r : qs.map RR.r = rs
  sl : ∀ q ∈ qs, q.rowned N W
  ne : ∀ q ∈ qs, ∀ b o, q.a = some ⟨b, o, none⟩ → v.ownBlock ≠ some b
theorem BkR.nil (W : World) (N : Nat) : BkR W N [] (.slice none 0 0) [] := ⟨World.ownsRow_nil _ _ _ _, rfl, (fun q h => by cases h), (fun q h => by cases h)⟩
theorem BkR.ext {W W' : World} {N : Nat} {rs : List Rl} {qs : List RR} {v : Value} (h : BkR W N rs v qs) (he : Ext W W') : BkR W' N rs v qs := ⟨owns_ext h.own he, h.r, fun q hq => (h.sl q hq).ext he, h.ne⟩
theorem rowned_kp {S : Nat → Prop} {W W' : World} {N : Nat} {x : RR} (h2 : x.rowned N W) (hk1 : Kp S W W') (h3 : ∀ b o, x.a = some ⟨b, o, none⟩ → ¬ S b) : x.rowned N W' := by
  refine owns_kp h2 hk1 (fun b hb => ?_)
  obtain ⟨xr, xa, xc⟩ := x
  cases xa with
  | none => cases hb
  | some ad =>
    obtain ⟨b', o', sp⟩ := ad
    have hb' : b' = b := by simpa [Value.ownBlock] using hb
    subst hb'
    rcases h2.2 with ⟨hv, -⟩ | ⟨g, cap, cur, hv, -⟩
    · cases hv
    · simp only [Value.slice.injEq, Option.some.injEq, Addr.mk.injEq] at hv
      obtain ⟨⟨rfl, rfl, rfl⟩, -⟩ := hv
      exact h3 _ _ rfl
theorem BkR.kept {W W' : World} {N : Nat} {rs : List Rl} {qs : List RR} {v : Value} {row : Option Nat} (h : BkR W N rs v qs) (hg : W.grownBy W' row) (hr : ∀ r, row = some r → ∃ o : Obj, W.heap[r]? = some o ∧ o.isCells = false) : BkR W' N rs v qs :=
  ⟨owns_kept h.own hg hr, h.r, fun q hq => owns_kept (h.sl q hq) hg hr, h.ne⟩
theorem BkR.set {W : World} {N : Nat} {rs : List Rl} {qs : List RR} {v : Value} (h : BkR W N rs v qs) {p : Addr} (hp : p.block < N) (u : Value) : BkR (W.setCell p u) N rs v qs := ⟨owns_set h.own hp u, h.r, fun q hq => owns_set (h.sl q hq) hp u, h.ne⟩
theorem BkR.push {W W' : World} {N : Nat} {rs : List Rl} {qs : List RR} {v v' : Value} {q : RR} (h : BkR W N rs v qs) (hs : q.rowned N W) (hn : ∀ b o, q.a = some ⟨b, o, none⟩ → v.ownBlock ≠ some b)
    (hg : W.grownBy W' v.ownBlock) (hat : v'.ownBlock = v.ownBlock ∨ v'.ownBlock = some W.heap.size) (ho : W'.ownsRow N 51 5 v' (qs.length + 1) ((qs.map RR.cells).flatten ++ q.cells)) : BkR W' N (rs ++ [q.r]) v' (qs ++ [q]) := by
  have hall : ∀ x ∈ qs ++ [q], x.rowned N W ∧ ∀ b o, x.a = some ⟨b, o, none⟩ → v.ownBlock ≠ some b := fun x hx => by
    rcases List.mem_append.1 hx with hx | hx
    · exact ⟨h.sl x hx, h.ne x hx⟩
    · obtain rfl : x = q := by simpa using hx
      exact ⟨hs, hn⟩
  refine ⟨by simpa using ho, by rw [List.map_append, h.r]; rfl, fun x hx => rowned_kp (hall x hx).1 (Kp.of_grown hg) (hall x hx).2, fun x hx b o e => ?_⟩
  obtain ⟨h2, h3⟩ := hall x hx
  rcases hat with h4 | h4
  · rw [h4]; exact h3 b o e
  · rw [h4]; intro h5; injection h5 with h5
    have := (h2.at_ e).2; omega
theorem BkR.rl {W : World} {N : Nat} {rs : List Rl} {qs : List RR} {v : Value} (h : BkR W N rs v qs) : RL W v qs := ⟨Sl.of_owns (base := N) (e := 51) (by rw [List.length_map]; exact h.own) (RR.len qs), fun q hq => (h.sl q hq).in⟩

end Go.Proofs.YtdgalkljngigeaaGreat


/-
The awake of the laws of catalogs.
-/
namespace Go.Proofs.YtdgalkljngigeaaGreat
open Go.RowKit

def aw9 (v : Int) : Rl := ⟨3, v, ⟨#[116]⟩, 0, [⟨⟨#[97]⟩, 1, false⟩]⟩
theorem aw9_r1 : (aw9 1).right = 0 := by decide
theorem aw9_r2 : (aw9 2).right = 0 := by decide
theorem aw9_up : ofUp [aw9 2, aw9 1] 2 = [aw9 1, aw9 2] := by rfl
theorem aw9_ofE : ofE [aw9 2, aw9 1] = 0 := by decide
theorem aw9_ofPl : ofPl [aw9 2, aw9 1] = 2 := by decide

theorem aw9_wb (v : Int) : (aw9 v).wb := ⟨by show 1 ≤ 9223372036854775807; omega, by intro c hc; simp [aw9] at hc; subst hc; show 1 ≤ 9223372036854775807; omega, by show 1 ≤ 5864062014634; omega, Int.le_refl 0⟩
theorem two_of {qs : List RR} {a b : Rl} (h : qs.map RR.r = [a, b]) : ∃ x y, qs = [x, y] ∧ x.r = a ∧ y.r = b := by
  match qs, h with
  | [x, y], h =>
    simp only [List.map_cons, List.map_nil, List.cons.injEq, and_true] at h
    exact ⟨x, y, rfl, h.1, h.2⟩

end Go.Proofs.YtdgalkljngigeaaGreat


/-
Whether two lists of relations are the same: the reference's, the program's.
-/
namespace Go.Proofs.YtdgalkljngigeaaGreat
open Go.RowKit

theorem rls_ext {a b : List RR} (h0 : a.length = b.length) (h : ∀ i (h1 : i < a.length) (h2 : i < b.length), a[i].r = b[i].r) : a.map RR.r = b.map RR.r :=
  List.ext_getElem (by simpa using h0) (fun i h1 h2 => by rw [List.getElem_map, List.getElem_map]; exact h i (by simpa using h1) (by simpa using h2))

end Go.Proofs.YtdgalkljngigeaaGreat


/-
The walk of CatalogOrder.
-/
namespace Go.Proofs.YtdgalkljngigeaaGreat
open Go.RowKit

theorem mem_r {ps qs : List RR} (h : qs.map RR.r = ps.map RR.r) {q : RR} (hq : q ∈ qs) : ∃ p ∈ ps, p.r = q.r := by
  have : q.r ∈ ps.map RR.r := by rw [← h]; exact List.mem_map_of_mem hq
  obtain ⟨p, hp, e⟩ := List.mem_map.1 this
  exact ⟨p, hp, e⟩
theorem up_n16 {l : List Rl} {k : Nat} {qs : List RR} (h : qs.map RR.r = ofUp l k) : qs.length ≤ 64 ∧ ∀ q ∈ qs, q.r.cols.length ≤ 16 := by
  refine ⟨?_, fun q hq => Rl.cols_le ((ofUp_ok l k).right _ (by rw [← h]; exact List.mem_map_of_mem hq))⟩
  have := (ofUp_ok l k).n64
  rw [← h, List.length_map] at this
  exact this
/-- The laws' Own and Of, one behind the other. -/
theorem own_of {ps : List RR} {W W1 : World} {v : Value} {qs : List RR} (ho : OwnR W1 W.heap.size ps ps.length v qs) (hb : ∀ p ∈ ps, p.r.wb) : RL W1 v qs ∧ (∀ q ∈ qs, q.r.cols.length ≤ q.c) ∧ (∀ q ∈ qs, q.r.wb) ∧ qs.map RR.r = ps.map RR.r ∧ qs.length = ps.length :=
  ⟨ho.rl, ho.cap, ho.wb hb, ho.rs, ho.len⟩

end Go.Proofs.YtdgalkljngigeaaGreat


/-
The walk of CatalogKeeps.
-/
namespace Go.Proofs.YtdgalkljngigeaaGreat
open Go.RowKit

theorem upP_16k (ps : List RR) : (upP ps ps.length).length ≤ 64 ∧ ∀ q ∈ upP ps ps.length, q.r.cols.length ≤ 16 :=
  up_n16 (l := ps.map RR.r) (k := ps.length) (upP_r _ _)
theorem cget_is {N g : Nat} {c : Value} {ps : List RR} {o v : Int} {w : World} (hc : Ca w N g c ps) {x : Rl} (h : getR o v (ps.map RR.r) = some x) :
    Calls Tryz.prog 40 #[.pointer (some ⟨g, 0, none⟩), .agg #[.int .u32 o, .int .u32 v]] w fun e w' => ∃ q : RR, e = .returned (.tuple #[.agg #[.int .u32 x.oid, .int .u32 x.ver, .string x.nm, .int .u8 x.id, .slice q.a x.cols.length q.c], .bool true]) ∧ q.r = x ∧ q.owned w.heap.size w' ∧ Ext w w' := by
  refine (cget_any N g c ps o v w hc).mono fun e w' hq => ?_
  obtain ⟨q, h1, h2, h3, h4⟩ := hq
  have hh : hasR o v (ps.map RR.r) = true := by
    cases e2 : hasR o v (ps.map RR.r) with
    | true => rfl
    | false => rw [getR_none.2 e2] at h; cases h
  have hg : (getP o v ps).map RR.r = some x := (getP_map o v ps).trans h
  obtain ⟨p, hp, hpx⟩ := Option.map_eq_some_iff.1 hg
  rw [hp, Option.getD_some, hpx] at h2
  refine ⟨q, ?_, h2, h3, h4⟩
  rw [h1, hh]
  unfold RR.agg
  rw [h2]
theorem own8_is (p : RR) (x : Rl) (hx : p.r = x) (w : World) (hp : p.in w) (hn : x.cols.length ≤ 5864062014634) :
    Calls Tryz.prog 58 #[.agg #[.int .u32 x.oid, .int .u32 x.ver, .string x.nm, .int .u8 x.id, .slice p.a x.cols.length p.c]] w fun e w' => ∃ a' c', e = .returned (.agg #[.int .u32 x.oid, .int .u32 x.ver, .string x.nm, .int .u8 x.id, .slice a' x.cols.length c']) ∧ x.cols.length ≤ c' ∧ RR.in w' ⟨x, a', c'⟩ ∧ Ext w w' := by
  subst hx
  refine (own9_one p w hp hn).mono fun e w' hq => ?_
  obtain ⟨⟨r', a', c'⟩, h1, h2, h3, h4, h5⟩ := hq
  simp only at h2
  subst h2
  exact ⟨a', c', h1, h3, h4.in, h5⟩
end Go.Proofs.YtdgalkljngigeaaGreat

/-
What is wrong with an event: the program's rowed, own, truncate, Right.
-/
namespace Go.Proofs.YtdgalkljngigeaaGreat
open Go.RowKit

def rowedB (k : Int) : Bool := decide (4 ≤ k ∧ k ≤ 6)
/-- An event that has nothing but what is its kind's. -/
def Ev.only (e : Ev) : Ev := if rowedB e.kind = true then ⟨e.kind, e.ao, e.av, e.old, e.b, e.a, [], 0⟩ else ⟨e.kind, 0, 0, 0, [], [], e.rs, e.fl⟩
noncomputable def ownB (e : Ev) : Bool := evB e e.only
noncomputable def risB (l : List Rf) : Bool := @decide (∀ i (h : i + 1 < l.length), aheadB l[i].o l[i].v l[i + 1].o l[i + 1].v = true) (Classical.propDecidable _)
theorem risB_true {l : List Rf} : risB l = true ↔ ∀ i (h : i + 1 < l.length), aheadB l[i].o l[i].v l[i + 1].o l[i + 1].v = true := by unfold risB; simp
theorem risB_no {l : List Rf} {i : Nat} (h : i + 1 < l.length) (hn : aheadB l[i].o l[i].v l[i + 1].o l[i + 1].v = false) : risB l = false := by
  cases hr : risB l with
  | false => rfl
  | true => rw [risB_true.1 hr i h] at hn; cases hn
def hasAll (rs : List Rf) (l : List Rl) : Bool := rs.all (fun x => hasR x.o x.v l)
theorem hasAll_no {rs : List Rf} {l : List Rl} {k : Nat} (hk : k < rs.length) (h : hasR rs[k].o rs[k].v l = false) : hasAll rs l = false := by
  unfold hasAll
  rw [List.all_eq_false]
  exact ⟨_, List.getElem_mem hk, by rw [h]; simp⟩
theorem hasAll_yes {rs : List Rf} {l : List Rl} (h : ∀ k (hk : k < rs.length), hasR rs[k].o rs[k].v l = true) : hasAll rs l = true := by
  unfold hasAll
  rw [List.all_eq_true]
  intro x hx
  obtain ⟨k, hk, rfl⟩ := List.getElem_of_mem hx
  exact h k hk
noncomputable def truncE (e : Ev) (l : List Rl) : Int := if e.rs.length < 1 ∨ 8 < e.rs.length then 17 else if risB e.rs = false then 15 else if hasAll e.rs l = false then 10 else if 3 < e.fl then 4 else 0
noncomputable def evE (e : Ev) (l : List Rl) : Int :=
  if e.kind < 4 ∨ 7 < e.kind then 7 else if ownB e = false then 3 else if e.kind = 7 then truncE e l else match getR e.ao e.av l with
    | none => 10
    | some r => imgE r e.kind e.old e.b e.a

set_option maxRecDepth 100000 in set_option maxHeartbeats 1600000 in
theorem rowed_any (x : EL) (w : World) : Calls Tryz.prog 92 #[x.agg] w fun e w' => e = .returned (.bool (rowedB x.e.kind)) ∧ Ext w w' := by
  obtain ⟨⟨k1, ao1, av1, old1, b1, a1, r1, fl1⟩, ba1, bc1, aa1, ac1, ra1, rc1⟩ := x
  unfold EL.agg
  simp only
  by_cases h4 : 4 ≤ k1
  · by_cases h6 : k1 ≤ 6
    · have HR := Hid.mk' (show rowedB k1 = true from decide_eq_true ⟨h4, h6⟩)
      go_enter Tryz.func92, Tryz.ntmps92
      go_wp2
      go_ret
      exact ⟨ret_bool HR.out.symm, by exact eX⟩
    · have HR := Hid.mk' (show rowedB k1 = false from decide_eq_false (fun h => h6 h.2))
      go_enter Tryz.func92, Tryz.ntmps92
      go_wp2
      go_ret
      exact ⟨ret_bool HR.out.symm, by exact eX⟩
  · have HR := Hid.mk' (show rowedB k1 = false from decide_eq_false (fun h => h4 h.1))
    go_enter Tryz.func92, Tryz.ntmps92
    go_wp2
    go_ret
    exact ⟨ret_bool HR.out.symm, by exact eX⟩

theorem nilRef (w : World) : Sl w (.slice none 0 0) 2 (([] : List Rf).map Rf.cells) := ⟨none, 0, rfl, .inl rfl⟩
theorem nilRowP (w : World) : Sl w (.slice none 0 0) 5 (([] : List K).map K.pc) := ⟨none, 0, rfl, .inl rfl⟩
set_option maxRecDepth 100000 in set_option maxHeartbeats 4000000 in
theorem pown13_any (x : EL) (w : World) (hx : x.at 5 K.pc w) (hs : x.e.small) : Calls Tryz.prog 93 #[x.agg] w fun e w' => e = .returned (.bool (ownB x.e)) ∧ Ext w w' := by
  have HRW := Hid.mk' (fun W => rowed_any x W)
  have HAK := Hid.mk' (fun y W (h : Ext w W) (h2 : y.at 5 K.pc W) (h3 : y.e.small) => ealike_any x y W (hx.ext h) h2 hs h3)
  have HX := Hid.mk' (And.intro hx hs)
  obtain ⟨⟨k1, ao1, av1, old1, b1, a1, r1, fl1⟩, ba1, bc1, aa1, ac1, ra1, rc1⟩ := x
  unfold EL.agg at HRW HAK ⊢
  simp only at HRW HAK ⊢
  clear hx hs
  cases hr : rowedB k1 with
  | true =>
    have HR := Hid.mk' (show ownB (⟨k1, ao1, av1, old1, b1, a1, r1, fl1⟩ : Ev) = evB (⟨k1, ao1, av1, old1, b1, a1, r1, fl1⟩ : Ev) ⟨k1, ao1, av1, old1, b1, a1, [], 0⟩ from by unfold ownB Ev.only; rw [if_pos hr])
    rw [hr] at HRW
    clear hr
    go_enter Tryz.func93, Tryz.ntmps93
    go_upto_region 3 with (go_at_call 92; refine (HRW.out _).mono ?_; rintro e w1 ⟨rfl, hb1⟩; have HB1 := Hid.mk' hb1; have hE_w1 : Ext ((w.alloc (.cells #[.int .u8 k1, .int .u32 ao1, .int .u32 av1, .int .u8 old1, .slice ba1 b1.length bc1, .slice aa1 a1.length ac1, .slice ra1 r1.length rc1, .int .u8 fl1] 103)).alloc (.cells #[.int .u8 k1, .int .u32 0, .int .u32 0, .int .u8 0, .slice none 0 0, .slice none 0 0, .slice none 0 0, .int .u8 0] 103)) w1 := (by exact eX); obtain ⟨hc_w1, hf_w1⟩ := hE_w1.cells; have hz_w1 := hE_w1.size)
    have HW1 := Hid.mk' (((Ext.refl (w.alloc (.cells #[.int .u8 k1, .int .u32 ao1, .int .u32 av1, .int .u8 old1, .slice ba1 b1.length bc1, .slice aa1 a1.length ac1, .slice ra1 r1.length rc1, .int .u8 fl1] 103))).alloc (.cells #[.int .u8 k1, .int .u32 0, .int .u32 0, .int .u8 0, .slice none 0 0, .slice none 0 0, .slice none 0 0, .int .u8 0] 103)).trans HB1.out)
    have hV : Blk w1 w.heap.size #[.int .u8 k1, .int .u32 ao1, .int .u32 av1, .int .u8 old1, .slice ba1 b1.length bc1, .slice aa1 a1.length ac1, .slice ra1 r1.length rc1, .int .u8 fl1] 103 := (((Blk.new w #[.int .u8 k1, .int .u32 ao1, .int .u32 av1, .int .u8 old1, .slice ba1 b1.length bc1, .slice aa1 a1.length ac1, .slice ra1 r1.length rc1, .int .u8 fl1] 103).alloc _).ext HB1.out)
    have hZ : Blk w1 (w.heap.size + 1) #[.int .u8 k1, .int .u32 0, .int .u32 0, .int .u8 0, .slice none 0 0, .slice none 0 0, .slice none 0 0, .int .u8 0] 103 := ((Blk.new' (w := w.alloc (.cells #[.int .u8 k1, .int .u32 ao1, .int .u32 av1, .int .u8 old1, .slice ba1 b1.length bc1, .slice aa1 a1.length ac1, .slice ra1 r1.length rc1, .int .u8 fl1] 103)) _ _ (by simp)).ext HB1.out)
    have HV := Hid.mk' hV
    have HZ := Hid.mk' hZ
    have gv := hV.cell
    have gz := hZ.cell
    have gzf := hZ.frozen
    have zv := hV.lt
    have zz := hZ.lt
    have hE1 := HW1.out
    clear hV hZ hE_w1 hc_w1 hf_w1 hz_w1
    go_region_held3 (fun w' => Ext (w.alloc (.cells #[.int .u8 k1, .int .u32 ao1, .int .u32 av1, .int .u8 old1, .slice ba1 b1.length bc1, .slice aa1 a1.length ac1, .slice ra1 r1.length rc1, .int .u8 fl1] 103)) w' ∧ (∀ b o, b < (w.alloc (.cells #[.int .u8 k1, .int .u32 ao1, .int .u32 av1, .int .u8 old1, .slice ba1 b1.length bc1, .slice aa1 a1.length ac1, .slice ra1 r1.length rc1, .int .u8 fl1] 103)).heap.size → w'.cell? ⟨b, o, none⟩ = (w.alloc (.cells #[.int .u8 k1, .int .u32 ao1, .int .u32 av1, .int .u8 old1, .slice ba1 b1.length bc1, .slice aa1 a1.length ac1, .slice ra1 r1.length rc1, .int .u8 fl1] 103)).cell? ⟨b, o, none⟩) ∧ (∀ b o, b < (w.alloc (.cells #[.int .u8 k1, .int .u32 ao1, .int .u32 av1, .int .u8 old1, .slice ba1 b1.length bc1, .slice aa1 a1.length ac1, .slice ra1 r1.length rc1, .int .u8 fl1] 103)).heap.size → w'.frozen? ⟨b, o, none⟩ = (w.alloc (.cells #[.int .u8 k1, .int .u32 ao1, .int .u32 av1, .int .u8 old1, .slice ba1 b1.length bc1, .slice aa1 a1.length ac1, .slice ra1 r1.length rc1, .int .u8 fl1] 103)).frozen? ⟨b, o, none⟩)) ((exact held_of (by exact eX))) (fail)
    have HZ2 := Hid.mk' (show Blk (((((w1.setCell ⟨w.heap.size + 1, 1, none⟩ (.int .u32 ao1)).setCell ⟨w.heap.size + 1, 2, none⟩ (.int .u32 av1)).setCell ⟨w.heap.size + 1, 3, none⟩ (.int .u8 old1)).setCell ⟨w.heap.size + 1, 4, none⟩ (.slice ba1 b1.length bc1)).setCell ⟨w.heap.size + 1, 5, none⟩ (.slice aa1 a1.length ac1)) (w.heap.size + 1) #[.int .u8 k1, .int .u32 ao1, .int .u32 av1, .int .u8 old1, .slice ba1 b1.length bc1, .slice aa1 a1.length ac1, .slice none 0 0, .int .u8 0] 103 from by
      have := ((((HZ.out.set 1 (.int .u32 ao1)).set 2 (.int .u32 av1)).set 3 (.int .u8 old1)).set 4 (.slice ba1 b1.length bc1)).set 5 (.slice aa1 a1.length ac1)
      simpa only [List.setIfInBounds_toArray, List.set_cons_zero, List.set_cons_succ] using this)
    have HE2 := Hid.mk' (show Ext (w.alloc (.cells #[.int .u8 k1, .int .u32 ao1, .int .u32 av1, .int .u8 old1, .slice ba1 b1.length bc1, .slice aa1 a1.length ac1, .slice ra1 r1.length rc1, .int .u8 fl1] 103)) (((((w1.setCell ⟨w.heap.size + 1, 1, none⟩ (.int .u32 ao1)).setCell ⟨w.heap.size + 1, 2, none⟩ (.int .u32 av1)).setCell ⟨w.heap.size + 1, 3, none⟩ (.int .u8 old1)).setCell ⟨w.heap.size + 1, 4, none⟩ (.slice ba1 b1.length bc1)).setCell ⟨w.heap.size + 1, 5, none⟩ (.slice aa1 a1.length ac1)) from by exact eX)
    have HD := Hid.mk' HZ2.out.drew
    have HE3 := Hid.mk' HE2.out.drew
    obtain ⟨w2, hw2⟩ : ∃ w2, w2 = (((((w1.setCell ⟨w.heap.size + 1, 1, none⟩ (.int .u32 ao1)).setCell ⟨w.heap.size + 1, 2, none⟩ (.int .u32 av1)).setCell ⟨w.heap.size + 1, 3, none⟩ (.int .u8 old1)).setCell ⟨w.heap.size + 1, 4, none⟩ (.slice ba1 b1.length bc1)).setCell ⟨w.heap.size + 1, 5, none⟩ (.slice aa1 a1.length ac1)).drew := ⟨_, rfl⟩
    rw [← hw2] at HD HE3 ⊢
    have HV2 := Hid.mk' ((Blk.new w #[.int .u8 k1, .int .u32 ao1, .int .u32 av1, .int .u8 old1, .slice ba1 b1.length bc1, .slice aa1 a1.length ac1, .slice ra1 r1.length rc1, .int .u8 fl1] 103).ext HE3.out)
    clear hw2 HZ2 HE2 gv gz gzf zv zz hE1
    have gv := HV2.out.cell
    have gz := HD.out.cell
    have zv := HV2.out.lt
    have zz := HD.out.lt
    have HEw : Hid (Ext w w2) := Hid.mk' (((Ext.refl w).alloc _).trans HE3.out)
    have HC := Hid.mk' (HAK.out ⟨⟨k1, ao1, av1, old1, b1, a1, [], 0⟩, ba1, bc1, aa1, ac1, none, 0⟩ w2 HEw.out ⟨HX.out.1.b.ext HEw.out, HX.out.1.a.ext HEw.out, nilRef _⟩ ⟨HX.out.2.b, HX.out.2.a, Nat.zero_le _⟩)
    simp only at HC
    go_wp2_with (go_at_call 106; refine HC.out.mono ?_; rintro e w3 ⟨rfl, hb3⟩)
    go_ret
    exact ⟨ret_bool HR.out.symm, HEw.out.trans hb3⟩
  | false =>
    have HR := Hid.mk' (show ownB (⟨k1, ao1, av1, old1, b1, a1, r1, fl1⟩ : Ev) = evB (⟨k1, ao1, av1, old1, b1, a1, r1, fl1⟩ : Ev) ⟨k1, 0, 0, 0, [], [], r1, fl1⟩ from by unfold ownB Ev.only; rw [if_neg (by rw [hr]; simp)])
    rw [hr] at HRW
    clear hr
    go_enter Tryz.func93, Tryz.ntmps93
    go_upto_region 4 with (go_at_call 92; refine (HRW.out _).mono ?_; rintro e w1 ⟨rfl, hb1⟩; have HB1 := Hid.mk' hb1; have hE_w1 : Ext ((w.alloc (.cells #[.int .u8 k1, .int .u32 ao1, .int .u32 av1, .int .u8 old1, .slice ba1 b1.length bc1, .slice aa1 a1.length ac1, .slice ra1 r1.length rc1, .int .u8 fl1] 103)).alloc (.cells #[.int .u8 k1, .int .u32 0, .int .u32 0, .int .u8 0, .slice none 0 0, .slice none 0 0, .slice none 0 0, .int .u8 0] 103)) w1 := (by exact eX); obtain ⟨hc_w1, hf_w1⟩ := hE_w1.cells; have hz_w1 := hE_w1.size)
    have HW1 := Hid.mk' (((Ext.refl (w.alloc (.cells #[.int .u8 k1, .int .u32 ao1, .int .u32 av1, .int .u8 old1, .slice ba1 b1.length bc1, .slice aa1 a1.length ac1, .slice ra1 r1.length rc1, .int .u8 fl1] 103))).alloc (.cells #[.int .u8 k1, .int .u32 0, .int .u32 0, .int .u8 0, .slice none 0 0, .slice none 0 0, .slice none 0 0, .int .u8 0] 103)).trans HB1.out)
    have hV : Blk w1 w.heap.size #[.int .u8 k1, .int .u32 ao1, .int .u32 av1, .int .u8 old1, .slice ba1 b1.length bc1, .slice aa1 a1.length ac1, .slice ra1 r1.length rc1, .int .u8 fl1] 103 := (((Blk.new w #[.int .u8 k1, .int .u32 ao1, .int .u32 av1, .int .u8 old1, .slice ba1 b1.length bc1, .slice aa1 a1.length ac1, .slice ra1 r1.length rc1, .int .u8 fl1] 103).alloc _).ext HB1.out)
    have hZ : Blk w1 (w.heap.size + 1) #[.int .u8 k1, .int .u32 0, .int .u32 0, .int .u8 0, .slice none 0 0, .slice none 0 0, .slice none 0 0, .int .u8 0] 103 := ((Blk.new' (w := w.alloc (.cells #[.int .u8 k1, .int .u32 ao1, .int .u32 av1, .int .u8 old1, .slice ba1 b1.length bc1, .slice aa1 a1.length ac1, .slice ra1 r1.length rc1, .int .u8 fl1] 103)) _ _ (by simp)).ext HB1.out)
    have HV := Hid.mk' hV
    have HZ := Hid.mk' hZ
    have gv := hV.cell
    have gz := hZ.cell
    have gzf := hZ.frozen
    have zv := hV.lt
    have zz := hZ.lt
    have hE1 := HW1.out
    clear hV hZ hE_w1 hc_w1 hf_w1 hz_w1
    go_region_held3 (fun w' => Ext (w.alloc (.cells #[.int .u8 k1, .int .u32 ao1, .int .u32 av1, .int .u8 old1, .slice ba1 b1.length bc1, .slice aa1 a1.length ac1, .slice ra1 r1.length rc1, .int .u8 fl1] 103)) w' ∧ (∀ b o, b < (w.alloc (.cells #[.int .u8 k1, .int .u32 ao1, .int .u32 av1, .int .u8 old1, .slice ba1 b1.length bc1, .slice aa1 a1.length ac1, .slice ra1 r1.length rc1, .int .u8 fl1] 103)).heap.size → w'.cell? ⟨b, o, none⟩ = (w.alloc (.cells #[.int .u8 k1, .int .u32 ao1, .int .u32 av1, .int .u8 old1, .slice ba1 b1.length bc1, .slice aa1 a1.length ac1, .slice ra1 r1.length rc1, .int .u8 fl1] 103)).cell? ⟨b, o, none⟩) ∧ (∀ b o, b < (w.alloc (.cells #[.int .u8 k1, .int .u32 ao1, .int .u32 av1, .int .u8 old1, .slice ba1 b1.length bc1, .slice aa1 a1.length ac1, .slice ra1 r1.length rc1, .int .u8 fl1] 103)).heap.size → w'.frozen? ⟨b, o, none⟩ = (w.alloc (.cells #[.int .u8 k1, .int .u32 ao1, .int .u32 av1, .int .u8 old1, .slice ba1 b1.length bc1, .slice aa1 a1.length ac1, .slice ra1 r1.length rc1, .int .u8 fl1] 103)).frozen? ⟨b, o, none⟩)) ((exact held_of (by exact eX))) (fail)
    have HZ2 := Hid.mk' (show Blk ((w1.setCell ⟨w.heap.size + 1, 6, none⟩ (.slice ra1 r1.length rc1)).setCell ⟨w.heap.size + 1, 7, none⟩ (.int .u8 fl1)) (w.heap.size + 1) #[.int .u8 k1, .int .u32 0, .int .u32 0, .int .u8 0, .slice none 0 0, .slice none 0 0, .slice ra1 r1.length rc1, .int .u8 fl1] 103 from by
      have := (HZ.out.set 6 (.slice ra1 r1.length rc1)).set 7 (.int .u8 fl1)
      simpa only [List.setIfInBounds_toArray, List.set_cons_zero, List.set_cons_succ] using this)
    have HE2 := Hid.mk' (show Ext (w.alloc (.cells #[.int .u8 k1, .int .u32 ao1, .int .u32 av1, .int .u8 old1, .slice ba1 b1.length bc1, .slice aa1 a1.length ac1, .slice ra1 r1.length rc1, .int .u8 fl1] 103)) ((w1.setCell ⟨w.heap.size + 1, 6, none⟩ (.slice ra1 r1.length rc1)).setCell ⟨w.heap.size + 1, 7, none⟩ (.int .u8 fl1)) from by exact eX)
    have HD := Hid.mk' HZ2.out.drew
    have HE3 := Hid.mk' HE2.out.drew
    obtain ⟨w2, hw2⟩ : ∃ w2, w2 = ((w1.setCell ⟨w.heap.size + 1, 6, none⟩ (.slice ra1 r1.length rc1)).setCell ⟨w.heap.size + 1, 7, none⟩ (.int .u8 fl1)).drew := ⟨_, rfl⟩
    rw [← hw2] at HD HE3 ⊢
    have HV2 := Hid.mk' ((Blk.new w #[.int .u8 k1, .int .u32 ao1, .int .u32 av1, .int .u8 old1, .slice ba1 b1.length bc1, .slice aa1 a1.length ac1, .slice ra1 r1.length rc1, .int .u8 fl1] 103).ext HE3.out)
    clear hw2 HZ2 HE2 gv gz gzf zv zz hE1
    have gv := HV2.out.cell
    have gz := HD.out.cell
    have zv := HV2.out.lt
    have zz := HD.out.lt
    have HEw : Hid (Ext w w2) := Hid.mk' (((Ext.refl w).alloc _).trans HE3.out)
    have HC := Hid.mk' (HAK.out ⟨⟨k1, 0, 0, 0, [], [], r1, fl1⟩, none, 0, none, 0, ra1, rc1⟩ w2 HEw.out ⟨nilRowP _, nilRowP _, HX.out.1.r.ext HEw.out⟩ ⟨Nat.zero_le _, Nat.zero_le _, HX.out.2.r⟩)
    simp only at HC
    go_wp2_with (go_at_call 106; refine HC.out.mono ?_; rintro e w3 ⟨rfl, hb3⟩)
    go_ret
    exact ⟨ret_bool HR.out.symm, HEw.out.trans hb3⟩

end Go.Proofs.YtdgalkljngigeaaGreat

/-
What is wrong with an event: the program's truncate.
-/
namespace Go.Proofs.YtdgalkljngigeaaGreat
open Go.RowKit

set_option maxRecDepth 100000 in set_option maxHeartbeats 4000000 in
theorem trunc_any (x : EL) (N g : Nat) (c : Value) (ps : List RR) (w : World) (hx : x.at 5 K.pc w) (hs : x.e.small) (hc : Ca w N g c ps) :
    Calls Tryz.prog 94 #[x.agg, .pointer (some ⟨g, 0, none⟩)] w fun e w' => e = .returned (.int .i64 (truncE x.e (ps.map RR.r))) ∧ Ext w w' := by
  have HL := Hid.mk' hx.r
  have HG := Hid.mk' (fun o v W (h : Ext w W) => cget_any N g c ps o v W (hc.ext h))
  have hn := hs.r
  obtain ⟨⟨k1, ao1, av1, old1, b1, a1, r1, fl1⟩, ba1, bc1, aa1, ac1, ra1, rc1⟩ := x
  unfold EL.agg
  simp only at HL hn ⊢
  clear hx hs hc
  by_cases h1 : r1.length < 1
  · have HR := Hid.mk' (show truncE (⟨k1, ao1, av1, old1, b1, a1, r1, fl1⟩ : Ev) (ps.map RR.r) = 17 from if_pos (.inl h1))
    go_enter Tryz.func94, Tryz.ntmps94
    go_wp2
    go_ret
    exact ⟨ret_int HR.out.symm, by exact eX⟩
  by_cases h8 : 8 < r1.length
  · have HR := Hid.mk' (show truncE (⟨k1, ao1, av1, old1, b1, a1, r1, fl1⟩ : Ev) (ps.map RR.r) = 17 from if_pos (.inr h8))
    go_enter Tryz.func94, Tryz.ntmps94
    go_wp2
    go_ret
    exact ⟨ret_int HR.out.symm, by exact eX⟩
  have HR0 := Hid.mk' (show truncE (⟨k1, ao1, av1, old1, b1, a1, r1, fl1⟩ : Ev) (ps.map RR.r) = if risB r1 = false then 15 else if hasAll r1 (ps.map RR.r) = false then 10 else if 3 < fl1 then 4 else 0 from if_neg (by simp only; omega))
  generalize truncE (⟨k1, ao1, av1, old1, b1, a1, r1, fl1⟩ : Ev) (ps.map RR.r) = R at HR0 ⊢
  go_enter Tryz.func94, Tryz.ntmps94
  go_wp2
  go_loopw [6] (fun i wr => ∃ k : Nat, k + 1 ≤ r1.length ∧ i = .int .i64 ((k : Int) + 1) ∧ Hid (∀ j (h : j + 1 < r1.length), j < k → aheadB r1[j].o r1[j].v r1[j + 1].o r1[j + 1].v = true) ∧ Hid (Blk wr w.heap.size #[.int .u8 k1, .int .u32 ao1, .int .u32 av1, .int .u8 old1, .slice ba1 b1.length bc1, .slice aa1 a1.length ac1, .slice ra1 r1.length rc1, .int .u8 fl1] 103) ∧ Hid (Ext w wr)) (fun i _ => r1.length - (intOf i).toNat)
  case atStart => exact ⟨0, by omega, rfl, Hid.mk' (fun j _ h => by omega), Hid.mk' (Blk.new _ _ _), Hid.mk' (by exact eX)⟩
  case round =>
    obtain ⟨k, hk, rfl, hrel, hX, hE⟩ := hrel
    have gv := hX.out.cell
    have zv := hX.out.lt
    by_cases hlt : k + 1 < r1.length
    · have hlt0 : k < r1.length := by omega
      obtain ⟨o1, p1, rfl, hb1, hx1⟩ := HL.out.at_ (i := k) (by simpa using hlt0)
      obtain ⟨f0, f1⟩ := Rf.at_ hlt0 hx1 hb1 hE.out
      obtain ⟨o2, p2, he2, hb2, hx2⟩ := HL.out.at_ (i := k + 1) (by simpa using hlt)
      simp only [Option.some.injEq, Addr.mk.injEq] at he2
      obtain ⟨rfl, rfl, -⟩ := he2
      obtain ⟨s0, s1⟩ := Rf.at_ hlt hx2 hb2 hE.out
      have hbw : o1 < wr.heap.size := Nat.lt_of_lt_of_le hb1 hE.out.size
      have HCP := Hid.mk' (fun W => compare_any r1[k].o r1[k].v r1[k + 1].o r1[k + 1].v W)
      have hcc := cmpR_cases r1[k].o r1[k].v r1[k + 1].o r1[k + 1].v
      have q1 : IntKind.i64.wrap (k : Int) = (k : Int) := IntWalk.i64_in _ (by omega)
      have q2 : ((k : Int) + 1).toNat = k + 1 := by omega
      have i1 : (k : Int) < (r1.length : Int) := by omega
      have i2 : (k : Int) + 1 < (r1.length : Int) := by omega
      have i3 : (0 : Int) ≤ (k : Int) + 1 := by omega
      have i4 : (0 : Int) ≤ (k : Int) := by omega
      have i5 : ((k + 1 : Nat) : Int) = (k : Int) + 1 := by omega
      clear hx1 hx2
      cases hA : aheadB r1[k].o r1[k].v r1[k + 1].o r1[k + 1].v with
      | true =>
        have HA := Hid.mk' hA
        have hneg : cmpR r1[k].o r1[k].v r1[k + 1].o r1[k + 1].v < 0 := cmpR_neg.2 (of_decide_eq_true hA)
        obtain ⟨D, hD⟩ : ∃ D, D = cmpR r1[k].o r1[k].v r1[k + 1].o r1[k + 1].v := ⟨_, rfl⟩
        rw [← hD] at HCP hneg
        have hdd : decide (0 ≤ D) = false := decide_eq_false (by omega)
        clear hA hD hcc hneg
        go_wp2
        go_region_held3 (fun w' => Ext (wr) w' ∧ (∀ b o, b < (wr).heap.size → w'.cell? ⟨b, o, none⟩ = (wr).cell? ⟨b, o, none⟩) ∧ (∀ b o, b < (wr).heap.size → w'.frozen? ⟨b, o, none⟩ = (wr).frozen? ⟨b, o, none⟩)) ((exact held_of (by exact eX))) ((go_at_call 89; refine (HCP.out _).mono ?_; rintro e w2 ⟨rfl, hb2⟩))
        clear q1 q2
        go_wp2
        go_roundw
        case rel => exact ⟨k + 1, by omega, by go_num, Hid.mk' (fun j h hj => by
          by_cases e : j = k
          · subst e; exact HA.out
          · exact hrel.out j h (by omega)), Hid.mk' (hX.out.ext (by exact eX)), Hid.mk' (hE.out.trans (by exact eX))⟩
        case measure => simp [intOf]; omega
      | false =>
        have HR := Hid.mk' (show R = 15 from by rw [HR0.out, if_pos (risB_no hlt hA)])
        have hneg : 0 ≤ cmpR r1[k].o r1[k].v r1[k + 1].o r1[k + 1].v := by
          by_cases h : cmpR r1[k].o r1[k].v r1[k + 1].o r1[k + 1].v < 0
          · rw [show aheadB r1[k].o r1[k].v r1[k + 1].o r1[k + 1].v = true from decide_eq_true (cmpR_neg.1 h)] at hA; cases hA
          · omega
        obtain ⟨D, hD⟩ : ∃ D, D = cmpR r1[k].o r1[k].v r1[k + 1].o r1[k + 1].v := ⟨_, rfl⟩
        rw [← hD] at HCP hneg
        have hdd : decide (0 ≤ D) = true := decide_eq_true hneg
        clear hA hD hcc hneg
        go_wp2
        go_region_held3 (fun w' => Ext (wr) w' ∧ (∀ b o, b < (wr).heap.size → w'.cell? ⟨b, o, none⟩ = (wr).cell? ⟨b, o, none⟩) ∧ (∀ b o, b < (wr).heap.size → w'.frozen? ⟨b, o, none⟩ = (wr).frozen? ⟨b, o, none⟩)) ((exact held_of (by exact eX))) ((go_at_call 89; refine (HCP.out _).mono ?_; rintro e w2 ⟨rfl, hb2⟩))
        clear q1 q2
        go_wp2
        go_ret
        exact ⟨ret_int HR.out.symm, hE.out.trans (by exact eX)⟩
    · have HR1 := Hid.mk' (show R = if hasAll r1 (ps.map RR.r) = false then 10 else if 3 < fl1 then 4 else 0 from by rw [HR0.out, if_neg (by rw [risB_true.2 (fun i h => hrel.out i h (by omega))]; simp)])
      clear HR0 hrel
      obtain ⟨wo, hwo⟩ : ∃ x, x = wr := ⟨_, rfl⟩
      subst hwo
      go_wp2
      go_loopw [41] (fun i wr => ∃ k : Nat, k ≤ r1.length ∧ i = .int .i64 k ∧ Hid (∀ j (h : j < r1.length), j < k → hasR r1[j].o r1[j].v (ps.map RR.r) = true) ∧ Hid (Ext wo wr)) (fun i _ => r1.length - (intOf i).toNat)
      case atStart => exact ⟨0, by omega, rfl, Hid.mk' (fun j _ h => by omega), Hid.mk' (by exact eX)⟩
      case round =>
        obtain ⟨m, hm, rfl, hrel, hF⟩ := hrel
        have gv2 := (hX.out.ext hF.out).cell
        have zv2 := (hX.out.ext hF.out).lt
        clear gv zv
        by_cases hlt2 : m < r1.length
        · obtain ⟨o1, p1, rfl, hb1, hx1⟩ := HL.out.at_ (i := m) (by simpa using hlt2)
          obtain ⟨f0, f1⟩ := Rf.at_ hlt2 hx1 hb1 (hE.out.trans hF.out)
          have hbw : o1 < wr.heap.size := Nat.lt_of_lt_of_le hb1 (hE.out.trans hF.out).size
          have HGT := Hid.mk' (fun W (h : Ext wr W) => HG.out r1[m].o r1[m].v W (hE.out.trans (hF.out.trans h)))
          clear hx1
          cases hA : hasR r1[m].o r1[m].v (ps.map RR.r) with
          | true =>
            have HA := Hid.mk' hA
            rw [hA] at HGT
            clear hA
            go_wp2_with (go_at_call 40; refine (HGT.out _ (by exact eX)).mono ?_; rintro e w3 ⟨⟨⟨oid, ver, nm, id, cols⟩, qa, qc⟩, rfl, -, -, hb3⟩; (try unfold RR.agg); (try simp only))
            go_roundw
            case rel => exact ⟨m + 1, by omega, by go_num, Hid.mk' (fun j h hj => by
              by_cases e : j = m
              · subst e; exact HA.out
              · exact hrel.out j h (by omega)), Hid.mk' (hF.out.trans (by exact eX))⟩
            case measure => simp [intOf]; omega
          | false =>
            have HR := Hid.mk' (show R = 10 from by rw [HR1.out, if_pos (hasAll_no hlt2 hA)])
            rw [hA] at HGT
            clear hA
            go_wp2_with (go_at_call 40; refine (HGT.out _ (by exact eX)).mono ?_; rintro e w3 ⟨⟨⟨oid, ver, nm, id, cols⟩, qa, qc⟩, rfl, -, -, hb3⟩; (try unfold RR.agg); (try simp only))
            go_ret
            exact ⟨ret_int HR.out.symm, hE.out.trans (hF.out.trans (by exact eX))⟩
        · have HR2 := Hid.mk' (show R = if 3 < fl1 then 4 else 0 from by rw [HR1.out, if_neg (by rw [hasAll_yes (fun i h => hrel.out i h (by omega))]; simp)])
          clear HR1 hrel
          by_cases h3 : 3 < fl1
          · have HR := Hid.mk' (show R = 4 from by rw [HR2.out, if_pos h3])
            go_wp2
            go_ret
            exact ⟨ret_int HR.out.symm, hE.out.trans hF.out⟩
          · have HR := Hid.mk' (show R = 0 from by rw [HR2.out, if_neg h3])
            go_wp2
            go_ret
            exact ⟨ret_int HR.out.symm, hE.out.trans hF.out⟩

end Go.Proofs.YtdgalkljngigeaaGreat

/-
What is wrong with an event: the program's Right.
-/
namespace Go.Proofs.YtdgalkljngigeaaGreat
open Go.RowKit

structure Ev.wk (e : Ev) : Prop where
  b : ∀ c ∈ e.b, c.wk
  a : ∀ c ∈ e.a, c.wk
  old : 0 ≤ e.old

set_option maxRecDepth 100000 in set_option maxHeartbeats 4000000 in
theorem eright_any (x : EL) (N g : Nat) (c : Value) (ps : List RR) (w : World) (hx : x.at 5 K.pc w) (hs : x.e.small) (hwk : x.e.wk) (hc : Ca w N g c ps) :
    Calls Tryz.prog 65 #[x.agg, .pointer (some ⟨g, 0, none⟩)] w fun e w' => e = .returned (.int .i64 (evE x.e (ps.map RR.r))) ∧ Ext w w' := by
  have HRW := Hid.mk' (fun W => rowed_any x W)
  have HOW := Hid.mk' (fun W (h : Ext w W) => pown13_any x W (hx.ext h) hs)
  have HTR := Hid.mk' (fun W (h : Ext w W) => trunc_any x N g c ps W (hx.ext h) hs (hc.ext h))
  have HG := Hid.mk' (fun W (h : Ext w W) => cget_any N g c ps x.e.ao x.e.av W (hc.ext h))
  have HGI := Hid.mk' (fun (r : Rl) (h : getR x.e.ao x.e.av (ps.map RR.r) = some r) W (h2 : Ext w W) => cget_is (hc.ext h2) h)
  have HIM := Hid.mk' (fun (r : Rl) (a2 : Option Addr) (c2 : Nat) (hr : r ∈ ps.map RR.r) W (h : Ext w W) (hl : Sl W (.slice a2 r.cols.length c2) 3 (r.cols.map Col.cells)) (hcp : r.cols.length ≤ c2) =>
    (show Calls Tryz.prog 95 #[.agg #[.int .u32 r.oid, .int .u32 r.ver, .string r.nm, .int .u8 r.id, .slice a2 r.cols.length c2], .int .u8 x.e.kind, .int .u8 x.e.old, .slice x.ba x.e.b.length x.bc, .slice x.aa x.e.a.length x.ac] W (fun e w' => e = .returned (.int .i64 (imgE r x.e.kind x.e.old x.e.b x.e.a)) ∧ Ext W w') from by
      obtain ⟨p, hp, rfl⟩ := List.mem_map.1 hr
      have hwb := hc.wb p hp
      exact image_any x.e.kind x.e.old x.e.b x.e.a x.ba x.aa x.bc x.ac p.r.oid p.r.ver p.r.nm p.r.id p.r.cols a2 c2 W hl hcp (by have := hc.n16 hp; omega) (hx.b.ext h) (hx.a.ext h) hs.b hs.a hwk.b hwk.a hwb.cs hwb.nm hwb.idn hwk.old))
  clear hx hs hwk hc
  obtain ⟨⟨k1, ao1, av1, old1, b1, a1, r1, fl1⟩, ba1, bc1, aa1, ac1, ra1, rc1⟩ := x
  unfold EL.agg at HRW HOW HTR ⊢
  simp only at HRW HOW HTR HG HGI HIM ⊢
  by_cases h0 : k1 < 4 ∨ 7 < k1
  · have HR := Hid.mk' (show evE (⟨k1, ao1, av1, old1, b1, a1, r1, fl1⟩ : Ev) (ps.map RR.r) = 7 from if_pos h0)
    have hr : rowedB k1 = false := decide_eq_false (by omega)
    have h7 : (k1 != 7) = true := by simp; omega
    rw [hr] at HRW
    clear hr h0
    go_enter Tryz.func65, Tryz.ntmps65
    go_wp2_with (go_at_call 92; refine (HRW.out _).mono ?_; rintro e w1 ⟨rfl, hb1⟩; have hE_w1 : Ext (w.alloc (.cells #[.int .u8 k1, .int .u32 ao1, .int .u32 av1, .int .u8 old1, .slice ba1 b1.length bc1, .slice aa1 a1.length ac1, .slice ra1 r1.length rc1, .int .u8 fl1] 103)) w1 := (by exact eX); obtain ⟨hc_w1, hf_w1⟩ := hE_w1.cells; have hz_w1 := hE_w1.size)
    go_ret
    exact ⟨ret_int HR.out.symm, by exact eX⟩
  have HR0 := Hid.mk' (show evE (⟨k1, ao1, av1, old1, b1, a1, r1, fl1⟩ : Ev) (ps.map RR.r) = _ from if_neg h0)
  simp only at HR0
  cases ho : ownB (⟨k1, ao1, av1, old1, b1, a1, r1, fl1⟩ : Ev) with
  | false =>
    have HR := Hid.mk' (show evE (⟨k1, ao1, av1, old1, b1, a1, r1, fl1⟩ : Ev) (ps.map RR.r) = 3 from by rw [HR0.out, if_pos ho])
    rw [ho] at HOW
    clear HR0 ho
    by_cases h7 : k1 = 7
    · have hr : rowedB k1 = false := decide_eq_false (by omega)
      have h7' : (k1 != 7) = false := by simp; omega
      rw [hr] at HRW
      clear hr h0 h7
      go_enter Tryz.func65, Tryz.ntmps65
      go_wp2_with (first | (go_at_call 92; refine (HRW.out _).mono ?_; rintro e w1 ⟨rfl, hb1⟩; have hE_w1 : Ext (w.alloc (.cells #[.int .u8 k1, .int .u32 ao1, .int .u32 av1, .int .u8 old1, .slice ba1 b1.length bc1, .slice aa1 a1.length ac1, .slice ra1 r1.length rc1, .int .u8 fl1] 103)) w1 := (by exact eX); obtain ⟨hc_w1, hf_w1⟩ := hE_w1.cells; have hz_w1 := hE_w1.size) | (go_at_call 93; refine (HOW.out _ (by exact eX)).mono ?_; rintro e w2 ⟨rfl, hb2⟩; (have hE_w2 : Ext (w.alloc (.cells #[.int .u8 k1, .int .u32 ao1, .int .u32 av1, .int .u8 old1, .slice ba1 b1.length bc1, .slice aa1 a1.length ac1, .slice ra1 r1.length rc1, .int .u8 fl1] 103)) w2 := (by exact eX); obtain ⟨hc_w2, hf_w2⟩ := hE_w2.cells; have hz_w2 := hE_w2.size)))
      go_ret
      exact ⟨ret_int HR.out.symm, by exact eX⟩
    · have hr : rowedB k1 = true := decide_eq_true (by omega)
      rw [hr] at HRW
      clear hr h0 h7
      go_enter Tryz.func65, Tryz.ntmps65
      go_wp2_with (first | (go_at_call 92; refine (HRW.out _).mono ?_; rintro e w1 ⟨rfl, hb1⟩; have hE_w1 : Ext (w.alloc (.cells #[.int .u8 k1, .int .u32 ao1, .int .u32 av1, .int .u8 old1, .slice ba1 b1.length bc1, .slice aa1 a1.length ac1, .slice ra1 r1.length rc1, .int .u8 fl1] 103)) w1 := (by exact eX); obtain ⟨hc_w1, hf_w1⟩ := hE_w1.cells; have hz_w1 := hE_w1.size) | (go_at_call 93; refine (HOW.out _ (by exact eX)).mono ?_; rintro e w2 ⟨rfl, hb2⟩; (have hE_w2 : Ext (w.alloc (.cells #[.int .u8 k1, .int .u32 ao1, .int .u32 av1, .int .u8 old1, .slice ba1 b1.length bc1, .slice aa1 a1.length ac1, .slice ra1 r1.length rc1, .int .u8 fl1] 103)) w2 := (by exact eX); obtain ⟨hc_w2, hf_w2⟩ := hE_w2.cells; have hz_w2 := hE_w2.size)))
      go_ret
      exact ⟨ret_int HR.out.symm, by exact eX⟩
  | true =>
  rw [ho] at HOW
  by_cases h7 : k1 = 7
  · have HR := Hid.mk' (show evE (⟨k1, ao1, av1, old1, b1, a1, r1, fl1⟩ : Ev) (ps.map RR.r) = truncE (⟨k1, ao1, av1, old1, b1, a1, r1, fl1⟩ : Ev) (ps.map RR.r) from by rw [HR0.out, if_neg (by rw [ho]; simp), if_pos h7])
    have hr : rowedB k1 = false := decide_eq_false (by omega)
    have h7' : (k1 != 7) = false := by simp; omega
    have h7'' : (k1 == 7) = true := by simp; omega
    rw [hr] at HRW
    clear hr h0 h7 HR0 ho
    go_enter Tryz.func65, Tryz.ntmps65
    go_wp2_with (first | (go_at_call 92; refine (HRW.out _).mono ?_; rintro e w1 ⟨rfl, hb1⟩; have hE_w1 : Ext (w.alloc (.cells #[.int .u8 k1, .int .u32 ao1, .int .u32 av1, .int .u8 old1, .slice ba1 b1.length bc1, .slice aa1 a1.length ac1, .slice ra1 r1.length rc1, .int .u8 fl1] 103)) w1 := (by exact eX); obtain ⟨hc_w1, hf_w1⟩ := hE_w1.cells; have hz_w1 := hE_w1.size) | (go_at_call 93; refine (HOW.out _ (by exact eX)).mono ?_; rintro e w2 ⟨rfl, hb2⟩; (have hE_w2 : Ext (w.alloc (.cells #[.int .u8 k1, .int .u32 ao1, .int .u32 av1, .int .u8 old1, .slice ba1 b1.length bc1, .slice aa1 a1.length ac1, .slice ra1 r1.length rc1, .int .u8 fl1] 103)) w2 := (by exact eX); obtain ⟨hc_w2, hf_w2⟩ := hE_w2.cells; have hz_w2 := hE_w2.size)) | (go_at_call 94; refine (HTR.out _ (by exact eX)).mono ?_; rintro e w3 ⟨rfl, hb3⟩))
    go_ret
    exact ⟨ret_int HR.out.symm, by exact eX⟩
  have hr : rowedB k1 = true := decide_eq_true (by omega)
  have h7' : (k1 == 7) = false := by simpa using h7
  rw [hr] at HRW
  rw [if_neg (by rw [ho]; simp), if_neg h7] at HR0
  clear hr h0 h7 ho
  cases hg : getR ao1 av1 (ps.map RR.r) with
  | none =>
    have HR := Hid.mk' (show evE (⟨k1, ao1, av1, old1, b1, a1, r1, fl1⟩ : Ev) (ps.map RR.r) = 10 from by rw [HR0.out, hg])
    have hh : hasR ao1 av1 (ps.map RR.r) = false := getR_none.1 hg
    rw [hh] at HG
    clear hg hh HR0
    go_enter Tryz.func65, Tryz.ntmps65
    go_wp2_with (first | (go_at_call 92; refine (HRW.out _).mono ?_; rintro e w1 ⟨rfl, hb1⟩; have hE_w1 : Ext (w.alloc (.cells #[.int .u8 k1, .int .u32 ao1, .int .u32 av1, .int .u8 old1, .slice ba1 b1.length bc1, .slice aa1 a1.length ac1, .slice ra1 r1.length rc1, .int .u8 fl1] 103)) w1 := (by exact eX); obtain ⟨hc_w1, hf_w1⟩ := hE_w1.cells; have hz_w1 := hE_w1.size) | (go_at_call 93; refine (HOW.out _ (by exact eX)).mono ?_; rintro e w2 ⟨rfl, hb2⟩; (have hE_w2 : Ext (w.alloc (.cells #[.int .u8 k1, .int .u32 ao1, .int .u32 av1, .int .u8 old1, .slice ba1 b1.length bc1, .slice aa1 a1.length ac1, .slice ra1 r1.length rc1, .int .u8 fl1] 103)) w2 := (by exact eX); obtain ⟨hc_w2, hf_w2⟩ := hE_w2.cells; have hz_w2 := hE_w2.size)) | (go_at_call 40; refine (HG.out _ (by exact eX)).mono ?_; rintro e w3 ⟨⟨⟨oid, ver, nm, id, cols⟩, qa, qc⟩, rfl, -, -, hb3⟩; (try unfold RR.agg); (try simp only)))
    go_ret
    exact ⟨ret_int HR.out.symm, by exact eX⟩
  | some r =>
    have HR := Hid.mk' (show evE (⟨k1, ao1, av1, old1, b1, a1, r1, fl1⟩ : Ev) (ps.map RR.r) = imgE r k1 old1 b1 a1 from by rw [HR0.out, hg])
    have HGI2 := Hid.mk' (HGI.out r hg)
    have HM := Hid.mk' ((getR_some hg).1)
    have HIM2 := Hid.mk' (fun a2 c2 => HIM.out r a2 c2 HM.out)
    generalize imgE r k1 old1 b1 a1 = R at HR HIM2
    obtain ⟨oid, ver, nm, id, cols⟩ := r
    simp only at HGI2 HIM2
    clear hg HR0 HGI HG
    go_enter Tryz.func65, Tryz.ntmps65
    go_wp2_with (first
      | (go_at_call 92; refine (HRW.out _).mono ?_; rintro e w1 ⟨rfl, hb1⟩; have hE_w1 : Ext (w.alloc (.cells #[.int .u8 k1, .int .u32 ao1, .int .u32 av1, .int .u8 old1, .slice ba1 b1.length bc1, .slice aa1 a1.length ac1, .slice ra1 r1.length rc1, .int .u8 fl1] 103)) w1 := (by exact eX); obtain ⟨hc_w1, hf_w1⟩ := hE_w1.cells; have hz_w1 := hE_w1.size)
      | (go_at_call 93; refine (HOW.out _ (by exact eX)).mono ?_; rintro e w2 ⟨rfl, hb2⟩; (have hE_w2 : Ext (w.alloc (.cells #[.int .u8 k1, .int .u32 ao1, .int .u32 av1, .int .u8 old1, .slice ba1 b1.length bc1, .slice aa1 a1.length ac1, .slice ra1 r1.length rc1, .int .u8 fl1] 103)) w2 := (by exact eX); obtain ⟨hc_w2, hf_w2⟩ := hE_w2.cells; have hz_w2 := hE_w2.size))
      | (go_at_call 40; refine (HGI2.out _ (by exact eX)).mono ?_; rintro e w3 ⟨⟨qr, qa, qc⟩, rfl, hqr, hqo, hb3⟩; simp only at hqr; subst hqr; have HQO := Hid.mk' hqo; (have hE_w3 : Ext (w.alloc (.cells #[.int .u8 k1, .int .u32 ao1, .int .u32 av1, .int .u8 old1, .slice ba1 b1.length bc1, .slice aa1 a1.length ac1, .slice ra1 r1.length rc1, .int .u8 fl1] 103)) w3 := (by exact eX); obtain ⟨hc_w3, hf_w3⟩ := hE_w3.cells; have hz_w3 := hE_w3.size); have z3 : w.heap.size < w3.heap.size := (by have := hE_w3.size; simp at this; omega); clear hqo; (try simp only))
      | (go_at_call 95; refine (HIM2.out _ _ _ (by exact eX) (HQO.out.in.ext (by exact eX)) (owns_cap HQO.out)).mono ?_; rintro e w4 ⟨rfl, hb4⟩))
    go_ret
    exact ⟨ret_int HR.out.symm, by exact eX⟩

end Go.Proofs.YtdgalkljngigeaaGreat

/-
What is wrong with a transaction: the program's answer.
-/
namespace Go.Proofs.YtdgalkljngigeaaGreat
open Go.RowKit

noncomputable def evAt (es : List Ev) (l : List Rl) (i : Nat) : Int := if h : i < es.length then evE es[i] l else 0
noncomputable def rtE (t : Tx) (l : List Rl) : Int := if t.xid = 0 then 4 else if 512 < t.es.length then 8 else firstE (evAt t.es l) t.es.length
noncomputable def rtP (t : Tx) (l : List Rl) : Int := if t.xid = 0 then -1 else if 512 < t.es.length then -1 else if firstE (evAt t.es l) t.es.length = 0 then -1 else (plE (evAt t.es l) t.es.length : Nat)
theorem evAt_map {es : List EL} {l : List Rl} {k : Nat} (h : k < es.length) : evAt (es.map EL.e) l k = evE es[k].e l := by
  unfold evAt
  rw [dif_pos (by simpa using h), List.getElem_map]
theorem rt_ok {t : Tx} {l : List Rl} (h0 : t.xid ≠ 0) (h1 : t.es.length ≤ 512) (hz : ∀ j, j < t.es.length → evAt t.es l j = 0) : rtE t l = 0 ∧ rtP t l = -1 := by
  have e := firstE_zero hz
  unfold rtE rtP
  rw [if_neg h0, if_neg (by omega), if_neg h0, if_neg (by omega), e, if_pos rfl]
  exact ⟨rfl, rfl⟩
theorem rt_bad {t : Tx} {l : List Rl} {k : Nat} (h0 : t.xid ≠ 0) (h1 : t.es.length ≤ 512) (hk : k < t.es.length) (hz : ∀ j, j < k → evAt t.es l j = 0) (hn : evAt t.es l k ≠ 0) : rtE t l = evAt t.es l k ∧ rtP t l = k := by
  have e := firstE_at hz hk hn
  have p := plE_at hz hn hk
  unfold rtE rtP
  rw [if_neg h0, if_neg (by omega), if_neg h0, if_neg (by omega), e, if_neg hn, p]
  exact ⟨rfl, rfl⟩

set_option maxRecDepth 100000 in set_option maxHeartbeats 4000000 in
theorem txright_any (t : TL) (N g : Nat) (c : Value) (ps : List RR) (w : World) (ht : t.at 5 K.pc w) (hn : t.es.length ≤ 1000) (hs : ∀ e ∈ t.es, e.e.small) (hwk : ∀ e ∈ t.es, e.e.wk) (hc : Ca w N g c ps) :
    Calls Tryz.prog 38 #[t.agg, .pointer (some ⟨g, 0, none⟩)] w fun e w' => e = .returned (.tuple #[.int .i64 (rtP t.t (ps.map RR.r)), .int .i64 (rtE t.t (ps.map RR.r))]) ∧ Ext w w' := by
  have HT := Hid.mk' ht
  have HER := Hid.mk' (fun x (hx : x ∈ t.es) W (h : Ext w W) => eright_any x N g c ps W ((ht.sl x hx).ext h) (hs x hx) (hwk x hx) (hc.ext h))
  clear ht hs hwk hc
  obtain ⟨xid, st, es, ta, tc⟩ := t
  unfold TL.agg TL.t
  simp only at HER hn ⊢
  have HT2 : Hid (ES 5 K.pc w (.slice ta es.length tc) es) := HT
  clear HT
  by_cases h0 : xid = 0
  · subst h0
    have HR := Hid.mk' (show rtE ⟨0, st, es.map EL.e⟩ (ps.map RR.r) = 4 ∧ rtP ⟨0, st, es.map EL.e⟩ (ps.map RR.r) = -1 from ⟨if_pos rfl, if_pos rfl⟩)
    go_enter Tryz.func38, Tryz.ntmps38
    go_wp2
    go_ret2
    exact ⟨by rw [HR.out.1, HR.out.2]; rfl, by exact eX⟩
  have h0' : (xid == 0) = false := by simpa using h0
  have H0 := Hid.mk' h0
  clear h0
  by_cases h5 : 512 < es.length
  · have HR := Hid.mk' (show rtE (⟨xid, st, es.map EL.e⟩ : Tx) (ps.map RR.r) = 8 ∧ rtP (⟨xid, st, es.map EL.e⟩ : Tx) (ps.map RR.r) = -1 from ⟨by unfold rtE; rw [if_neg H0.out, if_pos (by simpa using h5)], by unfold rtP; rw [if_neg H0.out, if_pos (by simpa using h5)]⟩)
    go_enter Tryz.func38, Tryz.ntmps38
    go_wp2
    go_ret2
    exact ⟨by rw [HR.out.1, HR.out.2]; rfl, by exact eX⟩
  have HL5 := Hid.mk' (show (⟨xid, st, es.map EL.e⟩ : Tx).es.length ≤ 512 by simp only [List.length_map]; omega)
  go_enter Tryz.func38, Tryz.ntmps38
  go_wp2
  go_loopw [21] (fun i wr => ∃ k : Nat, k ≤ es.length ∧ i = .int .i64 k ∧ Hid (∀ j, j < k → evAt (es.map EL.e) (ps.map RR.r) j = 0) ∧ Hid (Ext w wr)) (fun i _ => es.length - (intOf i).toNat)
  case atStart => exact ⟨0, Nat.zero_le _, rfl, Hid.mk' (fun j h => by omega), Hid.mk' (by exact eX)⟩
  case round =>
    obtain ⟨k, hk, rfl, hz, hE⟩ := hrel
    by_cases hlt : k < es.length
    · obtain ⟨b, o, rfl, hb, hx⟩ := HT2.out.row.at_ (i := k) (by simpa using hlt)
      obtain ⟨g0, g1, g2, g3, g4, g5, g6, g7⟩ := EL.at_ hlt hx hb hE.out
      have hbw : b < wr.heap.size := Nat.lt_of_lt_of_le hb hE.out.size
      have HEK := Hid.mk' (HER.out _ (List.getElem_mem hlt))
      have HAT := Hid.mk' (evAt_map (l := ps.map RR.r) hlt)
      obtain ⟨x, hxx⟩ : ∃ x, x = es[k] := ⟨_, rfl⟩
      rw [← hxx] at g0 g1 g2 g3 g4 g5 g6 g7 HEK HAT
      have HLT := Hid.mk' hlt
      clear hxx hx
      obtain ⟨⟨k1, ao1, av1, old1, b1, a1, r1, fl1⟩, ba1, bc1, aa1, ac1, ra1, rc1⟩ := x
      unfold EL.agg at HEK
      simp only at g0 g1 g2 g3 g4 g5 g6 g7 HEK HAT
      obtain ⟨E, hEE⟩ : ∃ E, E = evE ⟨k1, ao1, av1, old1, b1, a1, r1, fl1⟩ (ps.map RR.r) := ⟨_, rfl⟩
      rw [← hEE] at HEK HAT
      clear hEE
      by_cases hE0 : E = 0
      · subst hE0
        go_wp2_with (go_at_call 65; refine (HEK.out _ (hE.out.trans (by exact eX))).mono ?_; rintro e w2 ⟨rfl, hb2⟩)
        go_roundw
        case rel => exact ⟨k + 1, by omega, by go_num, Hid.mk' (fun j hj => by
          by_cases e : j = k
          · subst e; exact HAT.out
          · exact hz.out j (by omega)), Hid.mk' (hE.out.trans (by exact eX))⟩
        case measure => simp [intOf]; omega
      · have hE1 : (E != 0) = true := by simpa using hE0
        have HR := Hid.mk' (rt_bad (t := (⟨xid, st, es.map EL.e⟩ : Tx)) (l := ps.map RR.r) H0.out HL5.out (by simpa using HLT.out) hz.out (by rw [show (⟨xid, st, es.map EL.e⟩ : Tx).es = es.map EL.e from rfl, HAT.out]; exact hE0))
        rw [show (⟨xid, st, es.map EL.e⟩ : Tx).es = es.map EL.e from rfl, HAT.out] at HR
        clear hE0
        go_wp2_with (go_at_call 65; refine (HEK.out _ (hE.out.trans (by exact eX))).mono ?_; rintro e w2 ⟨rfl, hb2⟩)
        go_ret2
        exact ⟨by rw [HR.out.1, HR.out.2]; rfl, hE.out.trans (by exact eX)⟩
    · have HR := Hid.mk' (rt_ok (t := (⟨xid, st, es.map EL.e⟩ : Tx)) (l := ps.map RR.r) H0.out HL5.out (fun j hj => hz.out j (by simp at hj; omega)))
      go_wp2
      go_ret2
      exact ⟨by rw [HR.out.1, HR.out.2]; rfl, hE.out⟩

end Go.Proofs.YtdgalkljngigeaaGreat

/-
Tables in plain words: the rows of each relation, what an event and a transaction make of them.
-/
namespace Go.Proofs.YtdgalkljngigeaaGreat
open Go.RowKit

/-- The first place below n that p holds of; -1: there is none. -/
def idxI (p : Nat → Bool) : Nat → Int
  | 0 => -1
  | n + 1 => if idxI p n = -1 then (if p n = true then (n : Int) else -1) else idxI p n
theorem idxI_none {p : Nat → Bool} : ∀ {n : Nat}, (∀ i, i < n → p i = false) → idxI p n = -1
  | 0, _ => rfl
  | n + 1, h => by
    unfold idxI
    rw [if_pos (idxI_none fun i hi => h i (by omega)), if_neg (by rw [h n (by omega)]; simp)]
theorem idxI_at {p : Nat → Bool} {k : Nat} (h : ∀ i, i < k → p i = false) (hk : p k = true) : ∀ {n : Nat}, k < n → idxI p n = k
  | 0, h1 => by omega
  | n + 1, h1 => by
    unfold idxI
    rcases Nat.lt_or_ge k n with h2 | h2
    · rw [idxI_at h hk h2, if_neg (by omega)]
    · obtain rfl : k = n := by omega
      rw [if_pos (idxI_none h), if_pos hk]
theorem idxI_cases (p : Nat → Bool) : ∀ n : Nat, (idxI p n = -1 ∧ ∀ i, i < n → p i = false) ∨ ∃ k, k < n ∧ (∀ i, i < k → p i = false) ∧ p k = true ∧ idxI p n = (k : Int)
  | 0 => .inl ⟨rfl, fun i h => by omega⟩
  | n + 1 => by
    rcases idxI_cases p n with ⟨h1, h2⟩ | ⟨k, h1, h2, h3, h4⟩
    · cases hp : p n with
      | true => exact .inr ⟨n, by omega, h2, hp, idxI_at h2 hp (by omega)⟩
      | false => exact .inl ⟨idxI_none fun i hi => by
          rcases Nat.lt_or_ge i n with h | h
          · exact h2 i h
          · obtain rfl : i = n := by omega
            exact hp, fun i hi => by
          rcases Nat.lt_or_ge i n with h | h
          · exact h2 i h
          · obtain rfl : i = n := by omega
            exact hp⟩
    · exact .inr ⟨k, by omega, h2, h3, idxI_at h2 h3 (by omega)⟩
theorem idxI_congr {p q : Nat → Bool} {n : Nat} (h : ∀ i, i < n → p i = q i) : idxI p n = idxI q n := by
  rcases idxI_cases p n with ⟨h1, h2⟩ | ⟨k, h1, h2, h3, h4⟩
  · rw [h1, idxI_none fun i hi => by rw [← h i hi]; exact h2 i hi]
  · rw [h4, idxI_at (fun i hi => by rw [← h i (by omega)]; exact h2 i hi) (by rw [← h k h1]; exact h3) h1]
theorem idxI_lt (p : Nat → Bool) (n : Nat) : -1 ≤ idxI p n ∧ idxI p n < (n : Int) := by
  rcases idxI_cases p n with ⟨h1, h2⟩ | ⟨k, h1, h2, h3, h4⟩ <;> omega
theorem idxI_neg {p : Nat → Bool} {n : Nat} (h : idxI p n < 0) : idxI p n = -1 ∧ ∀ i, i < n → p i = false := by
  rcases idxI_cases p n with h1 | ⟨k, h1, h2, h3, h4⟩
  · exact h1
  · omega

/-- Have two rows the same key? -/
noncomputable def keyQ (cols : List Col) (o w : List K) : Bool := rowB (keyOf cols o) (keyOf cols w)
/-- Where the first row stands whose key is alike, but not at a place. -/
noncomputable def byKeyI (cols : List Col) (l : List (List K)) (w : List K) (but : Int) : Int := idxI (fun i => decide ((i : Int) ≠ but) && keyQ cols (l.getD i []) w) l.length
/-- Has a relation a column of the key? -/
def rkey (cols : List Col) : Bool := cols.any Col.key
/-- Is there a row with the key of another one, but at a place? -/
noncomputable def takenB (cols : List Col) (l : List (List K)) (w : List K) (but : Int) : Bool := rkey cols && decide (0 ≤ byKeyI cols l w but)
/-- Where the row of an old image stands. -/
noncomputable def atI (cols : List Col) (l : List (List K)) (e : Ev) : Int := if e.old = 2 then idxI (fun i => rowB e.b (l.getD i [])) l.length else if e.old = 1 then byKeyI cols l e.b (-1) else byKeyI cols l e.a (-1)
noncomputable def fndE (cols : List Col) (l : List (List K)) (e : Ev) : Int := if e.old ≠ 2 ∧ e.old ≠ 1 ∧ rkey cols = false then 13 else if atI cols l e < 0 then 10 else 0
/-- The row that an update makes. -/
noncomputable def newR (cols : List Col) (l : List (List K)) (e : Ev) : List K := mergeK (l.getD (atI cols l e).toNat []) e.a
/-- What is wrong with an event of a row, what it makes of rows. -/
noncomputable def rowsE (cols : List Col) (l : List (List K)) (e : Ev) : Int :=
  if e.kind = 4 then (if takenB cols l e.a (-1) = true then 9 else 0) else if fndE cols l e ≠ 0 then fndE cols l e else if e.kind = 6 then 0 else if takenB cols l (newR cols l e) (atI cols l e) = true then 9 else 0
noncomputable def rowsL (cols : List Col) (l : List (List K)) (e : Ev) : List (List K) :=
  if rowsE cols l e ≠ 0 then [] else if e.kind = 4 then l ++ [e.a] else if e.kind = 6 then l.eraseIdx (atI cols l e).toNat else l.set (atI cols l e).toNat (newR cols l e)
theorem atI_lt (cols : List Col) (l : List (List K)) (e : Ev) : -1 ≤ atI cols l e ∧ atI cols l e < (l.length : Int) := by
  unfold atI byKeyI
  repeat' split
  all_goals exact idxI_lt _ _
theorem newR_len {cols : List Col} {l : List (List K)} {e : Ev} : (newR cols l e).length = e.a.length := mergeK_len
theorem rowsL_len (cols : List Col) (l : List (List K)) (e : Ev) : (rowsL cols l e).length ≤ l.length + 1 := by
  unfold rowsL
  repeat' split
  · simp
  · simp
  · have := List.length_eraseIdx_le l (atI cols l e).toNat; omega
  · simp
theorem rowsL_row (cols : List Col) (l : List (List K)) (e : Ev) {n : Nat} (h : ∀ x ∈ l, x.length ≤ n) (ha : e.a.length ≤ n) : ∀ x ∈ rowsL cols l e, x.length ≤ n := by
  intro x hx
  unfold rowsL at hx
  split at hx
  · cases hx
  · split at hx
    · rcases List.mem_append.1 hx with h1 | h1
      · exact h x h1
      · obtain rfl : x = e.a := by simpa using h1
        exact ha
    · split at hx
      · exact h x (List.mem_of_mem_eraseIdx hx)
      · rcases List.mem_or_eq_of_mem_set hx with h1 | h1
        · exact h x h1
        · rw [h1, newR_len]; exact ha

/-- The rows of tables by their refs. -/
abbrev Tb := Int → Int → List (List K)
def Tb.put (T : Tb) (o v : Int) (l : List (List K)) : Tb := fun a b => if a = o ∧ b = v then l else T a b
def rfIn (rs : List Rf) (a b : Int) : Bool := rs.any fun x => decide (x.o = a ∧ x.v = b)
def clrT (T : Tb) (rs : List Rf) : Tb := fun a b => if rfIn rs a b = true then [] else T a b
/-- What an event makes of tables; what is wrong with it there. -/
noncomputable def evT (ps : List Rl) (T : Tb) (e : Ev) : Tb := if e.kind = 7 then clrT T e.rs else match getR e.ao e.av ps with
  | none => T
  | some r => T.put e.ao e.av (rowsL r.cols (T e.ao e.av) e)
noncomputable def evX (ps : List Rl) (T : Tb) (e : Ev) : Int := if e.kind = 7 then 0 else match getR e.ao e.av ps with
  | none => 0
  | some r => rowsE r.cols (T e.ao e.av) e
/-- The tables behind k events. -/
noncomputable def stT (ps : List Rl) (T : Tb) (es : List Ev) : Nat → Tb
  | 0 => T
  | k + 1 => match es[k]? with
    | none => stT ps T es k
    | some e => evT ps (stT ps T es k) e
theorem stT_succ {ps : List Rl} {T : Tb} {es : List Ev} {k : Nat} (h : k < es.length) : stT ps T es (k + 1) = evT ps (stT ps T es k) es[k] := by
  conv => lhs; unfold stT
  rw [List.getElem?_eq_getElem h]
noncomputable def evXat (ps : List Rl) (T : Tb) (es : List Ev) (i : Nat) : Int := match es[i]? with
  | none => 0
  | some e => evX ps (stT ps T es i) e
theorem evXat_at {ps : List Rl} {T : Tb} {es : List Ev} {k : Nat} (h : k < es.length) : evXat ps T es k = evX ps (stT ps T es k) es[k] := by
  unfold evXat
  rw [List.getElem?_eq_getElem h]
/-- What is wrong with a transaction, where; the tables behind it. -/
noncomputable def apE (ps : List Rl) (T : Tb) (t : Tx) : Int := if rtE t ps ≠ 0 then rtE t ps else firstE (evXat ps T t.es) t.es.length
noncomputable def apP (ps : List Rl) (T : Tb) (t : Tx) : Int := if rtE t ps ≠ 0 then rtP t ps else if firstE (evXat ps T t.es) t.es.length = 0 then -1 else (plE (evXat ps T t.es) t.es.length : Nat)
noncomputable def apT (ps : List Rl) (T : Tb) (t : Tx) : Tb := if apE ps T t ≠ 0 then T else stT ps T t.es t.es.length
theorem ap_bad {ps : List Rl} {T : Tb} {t : Tx} {k : Nat} (h0 : rtE t ps = 0) (hz : ∀ i, i < k → evXat ps T t.es i = 0) (hk : k < t.es.length) (hn : evXat ps T t.es k ≠ 0) : apE ps T t = evXat ps T t.es k ∧ apP ps T t = k ∧ apT ps T t = T := by
  have e1 := firstE_at hz hk hn
  have e2 : apE ps T t = evXat ps T t.es k := by unfold apE; rw [if_neg (by simpa using h0), e1]
  refine ⟨e2, ?_, ?_⟩
  · unfold apP; rw [if_neg (by simpa using h0), e1, if_neg hn, plE_at hz hn hk]
  · unfold apT; rw [e2, if_pos hn]
theorem ap_good {ps : List Rl} {T : Tb} {t : Tx} (h0 : rtE t ps = 0) (hz : ∀ i, i < t.es.length → evXat ps T t.es i = 0) : apE ps T t = 0 ∧ apP ps T t = -1 ∧ apT ps T t = stT ps T t.es t.es.length := by
  have e1 := firstE_zero hz
  have e2 : apE ps T t = 0 := by unfold apE; rw [if_neg (by simpa using h0), e1]
  refine ⟨e2, ?_, ?_⟩
  · unfold apP; rw [if_neg (by simpa using h0), e1, if_pos rfl]
  · unfold apT; rw [e2, if_neg (by simp)]
theorem ap_wrong {ps : List Rl} {T : Tb} {t : Tx} (h0 : rtE t ps ≠ 0) : apE ps T t = rtE t ps ∧ apP ps T t = rtP t ps ∧ apT ps T t = T := by
  have e2 : apE ps T t = rtE t ps := by unfold apE; rw [if_pos h0]
  refine ⟨e2, ?_, ?_⟩
  · unfold apP; rw [if_pos h0]
  · unfold apT; rw [e2, if_pos h0]

/-- No table has more than n rows, none of more than 1000 cells. -/
structure TbOk (T : Tb) (n : Nat) : Prop where
  n : ∀ o v, (T o v).length ≤ n
  r : ∀ o v, ∀ x ∈ T o v, x.length ≤ 1000
theorem TbOk.mono {T : Tb} {n m : Nat} (h : TbOk T n) (hm : n ≤ m) : TbOk T m := ⟨fun o v => Nat.le_trans (h.n o v) hm, h.r⟩
theorem TbOk.put {T : Tb} {n : Nat} (h : TbOk T n) {o v : Int} {l : List (List K)} (hl : l.length ≤ n) (hr : ∀ x ∈ l, x.length ≤ 1000) : TbOk (T.put o v l) n := by
  refine ⟨fun a b => ?_, fun a b => ?_⟩ <;> unfold Tb.put <;> split
  · exact hl
  · exact h.n a b
  · exact hr
  · exact h.r a b
theorem TbOk.clr {T : Tb} {n : Nat} (h : TbOk T n) (rs : List Rf) : TbOk (clrT T rs) n := by
  refine ⟨fun a b => ?_, fun a b => ?_⟩ <;> unfold clrT <;> split
  · simp
  · exact h.n a b
  · simp
  · exact h.r a b
theorem TbOk.ev {T : Tb} {n : Nat} (h : TbOk T n) (ps : List Rl) {e : Ev} (he : e.a.length ≤ 1000) : TbOk (evT ps T e) (n + 1) := by
  unfold evT
  split
  · exact (h.clr _).mono (by omega)
  · split
    · exact h.mono (by omega)
    · exact (h.mono (by omega)).put (Nat.le_trans (rowsL_len _ _ _) (by have := h.n e.ao e.av; omega)) (rowsL_row _ _ _ (h.r _ _) he)
theorem TbOk.st {T : Tb} {n : Nat} (h : TbOk T n) (ps : List Rl) {es : List Ev} (he : ∀ e ∈ es, e.a.length ≤ 1000) : ∀ k, TbOk (stT ps T es k) (n + k)
  | 0 => h
  | k + 1 => by
    rcases Nat.lt_or_ge k es.length with hk | hk
    · rw [stT_succ hk]
      exact (h.st ps he k).ev ps (he _ (List.getElem_mem hk))
    · have e : stT ps T es (k + 1) = stT ps T es k := by simp only [stT, List.getElem?_eq_none hk]
      rw [e]; exact (h.st ps he k).mono (by omega)
theorem TbOk.ap {T : Tb} {n : Nat} (h : TbOk T n) (ps : List Rl) {t : Tx} (he : ∀ e ∈ t.es, e.a.length ≤ 1000) : TbOk (apT ps T t) (n + t.es.length) := by
  unfold apT
  split
  · exact h.mono (by omega)
  · exact h.st ps he _
theorem TbOk.nil : TbOk (fun _ _ => []) 0 := ⟨fun _ _ => Nat.le_refl _, fun _ _ x hx => by cases hx⟩

end Go.Proofs.YtdgalkljngigeaaGreat

/-
Refs as keys of a map, over any program that has such a struct.
-/
namespace Go.Proofs.YtdgalkljngigeaaGreat
open Go.RowKit Go.Maps

/-- What a ref is as a key. -/
def litR (o v : Int) : Go.Lit := .string (keyBytes [.int .u32 o, .int .u32 v])
def B32 (o : Int) : Prop := 0 ≤ o ∧ o < 4294967296
theorem B32.wf {o : Int} (h : B32 o) : (Go.Lit.int .u32 o).wf = true := by
  obtain ⟨h1, h2⟩ := h
  exact WalkArith.wf_u32 ⟨h1, by omega⟩
theorem wf_b32 {o : Int} (h : (Go.Lit.int .u32 o).wf = true) : B32 o := by
  simp [Go.Lit.wf, IntKind.min, IntKind.max, IntKind.signed, IntKind.bits] at h
  exact ⟨by omega, by omega⟩
/-- What is asked of the program. -/
structure RefIs (P : Program) (k u : TypeId) : Prop where
  dk : P.underlying k = some (.struct #[⟨"Oid", u, 0, false, "", "", 0⟩, ⟨"Version", u, 1, false, "", "", 4⟩])
  du : P.underlying u = some (.int .u32)
  kt : P.keyType k = true
  ck : P.cellsOf k = 2
  cu : P.cellsOf u = 1
  nz : 0 < P.types.size
section
variable {P : Program} {k u : TypeId}
theorem RefIs.wide (h : RefIs P k u) : (match P.underlying k with | some (.array _ _) | some (.struct _) => true | _ => false) = true := by rw [h.dk]
theorem RefIs.lits (h : RefIs P k u) (a b : Value) : P.keyLits (P.types.size + 1) k [a, b] = (do
    let x ← P.keyLits P.types.size u [a]
    let y ← P.keyLits P.types.size u [b]
    pure (x ++ y)) := by
  simp [Program.keyLits, h.dk, h.ck, h.cu]
  cases P.keyLits P.types.size u [a] with
  | none => simp
  | some x => cases P.keyLits P.types.size u [b] <;> simp
theorem RefIs.one (h : RefIs P k u) (a : Value) : P.keyLits P.types.size u [a] = match a with
    | .int q n => if q = .u32 ∧ (Go.Lit.int .u32 n).wf = true then some [.int .u32 n] else none
    | _ => none := by
  obtain ⟨d, hd⟩ : ∃ d, P.types.size = d + 1 := ⟨P.types.size - 1, by have := h.nz; omega⟩
  rw [hd]
  cases a <;> simp [Program.keyLits, h.du]
theorem RefIs.key (h : RefIs P k u) {o v : Int} (ho : B32 o) (hv : B32 v) : Go.keyOf P k (.agg #[.int .u32 o, .int .u32 v]) = some (litR o v) := by
  have h1 := ho.wf
  have h2 := hv.wf
  unfold Go.keyOf
  simp [h.dk, h.kt, Value.formed, h.ck, Value.cells, litR, h.lits, h.one, h1, h2]
theorem RefIs.inv (h : RefIs P k u) {x : Value} {l : Go.Lit} (hx : Go.keyOf P k x = some l) : ∃ o v, x = .agg #[.int .u32 o, .int .u32 v] ∧ B32 o ∧ B32 v ∧ l = litR o v := by
  unfold Go.keyOf at hx
  simp only [h.dk, h.kt, Bool.true_and] at hx
  split at hx
  · rename_i hf
    cases x with
    | agg cs =>
      simp [Value.formed, h.dk, h.ck] at hf
      obtain ⟨l⟩ := cs
      match l, hf with
      | [a, b], _ =>
        simp only [Value.cells] at hx
        rw [h.lits, h.one, h.one] at hx
        obtain ⟨q1, n1, rfl⟩ : ∃ q n, a = .int q n := by cases a <;> first | exact ⟨_, _, rfl⟩ | (simp at hx; done)
        obtain ⟨q2, n2, rfl⟩ : ∃ q n, b = .int q n := by cases b <;> first | exact ⟨_, _, rfl⟩ | (simp at hx; done)
        simp only at hx
        by_cases c1 : q1 = .u32 ∧ (Go.Lit.int .u32 n1).wf = true
        · by_cases c2 : q2 = .u32 ∧ (Go.Lit.int .u32 n2).wf = true
          · rw [if_pos c1, if_pos c2] at hx
            obtain ⟨rfl, w1⟩ := c1
            obtain ⟨rfl, w2⟩ := c2
            simp at hx
            exact ⟨n1, n2, rfl, wf_b32 w1, wf_b32 w2, hx.symm⟩
          · rw [if_pos c1, if_neg c2] at hx; simp at hx
        · rw [if_neg c1] at hx; simp at hx
    | _ => simp [Value.formed, h.dk] at hf
  · cases hx
theorem RefIs.law (h : RefIs P k u) (hl : laidOutB P = true) (hrow : k < P.types.size) (hk : P.keyTypeAt 2 k = true) : Keyed P k := Keyed.of_law (deep_law_laid hl (m := 2) (by omega) hrow hk h.wide)
end
end Go.Proofs.YtdgalkljngigeaaGreat

/-
Tables in memory: a map of slices of rows, told by refs.
-/
namespace Go.Proofs.YtdgalkljngigeaaGreat
open Go.RowKit Go.Maps

/-- A row that lies somewhere. -/
structure PR where
  l : List K
  a : Option Addr
  c : Nat
def PR.val (p : PR) : Value := .slice p.a p.l.length p.c
def PR.cell (p : PR) : List Value := [p.val]
theorem PR.at_ {w wr : World} {b o : Nat} {ps : List PR} {k : Nat} (hk : k < ps.length) (hc : ∀ j, j < 1 → w.cell? ⟨b, o + k * 1 + j, none⟩ = ((ps.map PR.cell).getD k [])[j]?) (hb : b < w.heap.size) (hE : Ext w wr) : wr.cell? ⟨b, o + k, none⟩ = some (.slice ps[k].a ps[k].l.length ps[k].c) := by
  rw [getD_map PR.cell ps hk] at hc
  have := (hE.cells.1 b _ hb).trans (hc 0 (by omega))
  rw [Nat.mul_one, Nat.add_zero] at this
  exact this
/-- A slice of rows lies in a block of rows. -/
def Tag (W : World) (v : Value) : Prop := ∀ b o n c, v = .slice (some ⟨b, o, none⟩) n c → 0 < n → ∃ cs : Array Value, Blk W b cs 71
theorem Tag.kp {W W' : World} {v : Value} (h : Tag W v) (hb : ∀ b cs, Blk W b cs 71 → Blk W' b cs 71) : Tag W' v := fun b o n c e h0 => by
  obtain ⟨cs, h1⟩ := h b o n c e h0
  exact ⟨cs, hb b cs h1⟩
theorem Tag.ext {W W' : World} {v : Value} (h : Tag W v) (he : Ext W W') : Tag W' v := h.kp fun _ _ h => h.ext he
theorem Tag.of {W : World} {g : Nat} {cs : Array Value} (h : Blk W g cs 71) (o n c : Nat) : Tag W (.slice (some ⟨g, o, none⟩) n c) := fun b o' n' c' e _ => by
  simp only [Value.slice.injEq, Option.some.injEq, Addr.mk.injEq] at e
  obtain ⟨⟨rfl, -, -⟩, -, -⟩ := e
  exact ⟨cs, h⟩
theorem Tag.owns {W : World} {base n size : Nat} {v : Value} {xs : List Value} (h : W.ownsRow base 71 size v n xs) : Tag W v := fun b o n' c e _ => by
  rcases h.2 with ⟨rfl, -⟩ | ⟨g, cap, cur, rfl, -, hb, -⟩
  · cases e
  · simp only [Value.slice.injEq, Option.some.injEq, Addr.mk.injEq] at e
    obtain ⟨⟨rfl, -, -⟩, -, -⟩ := e
    exact ⟨cur, hb⟩
/-- Rows that lie somewhere, in a slice. -/
structure RS (n : Nat) (f : K → List Value) (W : World) (v : Value) (qs : List PR) : Prop where
  row : Sl W v 1 (qs.map PR.cell)
  sl : ∀ q ∈ qs, Sl W q.val n (q.l.map f)
  tag : Tag W v
theorem RS.ext {n : Nat} {f : K → List Value} {W W' : World} {v : Value} {qs : List PR} (h : RS n f W v qs) (he : Ext W W') : RS n f W' v qs := ⟨h.row.ext he, fun q hq => (h.sl q hq).ext he, h.tag.ext he⟩
theorem RS.nil {n : Nat} {f : K → List Value} (W : World) : RS n f W (.slice none 0 0) [] := ⟨⟨none, 0, rfl, .inl rfl⟩, (fun q hq => by cases hq), (fun b o n c e => by cases e)⟩
def RwA (n : Nat) (f : K → List Value) (W : World) (v : Value) (ls : List (List K)) : Prop := ∃ a c, ∃ qs : List PR, v = .slice a qs.length c ∧ RS n f W v qs ∧ qs.map PR.l = ls
theorem RwA.ext {n : Nat} {f : K → List Value} {W W' : World} {v : Value} {ls : List (List K)} (h : RwA n f W v ls) (he : Ext W W') : RwA n f W' v ls := by
  obtain ⟨a, c, qs, rfl, h1, h2⟩ := h
  exact ⟨a, c, qs, rfl, h1.ext he, h2⟩
theorem RwA.nil {n : Nat} {f : K → List Value} (W : World) : RwA n f W (.slice none 0 0) [] := ⟨none, 0, [], rfl, RS.nil W, rfl⟩

theorem Tryz.laidOutT : laidOutB Tryz.prog = true := by kernel_rfl
theorem Tryz.refIs : RefIs Tryz.prog 68 30 := ⟨Tryz.underlying68, Tryz.underlying30, by kernel_rfl, by kernel_rfl, by kernel_rfl, of_decide_eq_true (by kernel_rfl)⟩
theorem Tryz.rowRef : (68 : TypeId) < Tryz.prog.types.size := of_decide_eq_true (by kernel_rfl)
theorem Tryz.atRef : Tryz.prog.keyTypeAt 2 68 = true := by kernel_rfl
theorem Tryz.lawRef : Keyed Tryz.prog 68 := Tryz.refIs.law Tryz.laidOutT Tryz.rowRef Tryz.atRef
theorem keyRef {o v : Int} (ho : B32 o) (hv : B32 v) : Go.keyOf Tryz.prog 68 (.agg #[.int .u32 o, .int .u32 v]) = some (litR o v) := Tryz.refIs.key ho hv
theorem keyRef_inv {x : Value} {l : Go.Lit} (h : Go.keyOf Tryz.prog 68 x = some l) : ∃ o v, x = .agg #[.int .u32 o, .int .u32 v] ∧ B32 o ∧ B32 v ∧ l = litR o v := Tryz.refIs.inv h
theorem litR_inj {o v o' v' : Int} (ho : B32 o) (hv : B32 v) (ho' : B32 o') (hv' : B32 v') (h : litR o v = litR o' v') : o = o' ∧ v = v' := by
  have h1 := keyRef ho hv
  rw [h, ← keyRef ho' hv'] at h1
  have h2 := Tryz.lawRef.inj (keyRef ho hv) (by rw [h]; exact keyRef ho' hv')
  simpa using h2

/-- How a value reads: as itself. -/
def RV (v : Value) : Option (DataW Value × List MemPlace) := some (.held v, [])
/-- The rows of relations, told by refs, in a map. -/
def MapT (W : World) (m : Nat) (rs : List Rl) (T : Tb) : Prop := ∃ D : DataW Value, W.ownsMap Tryz.prog 68 RV m (Maps.size D) D ∧ (Maps.size D ≤ 1000 ∧ Maps.size D = rs.length) ∧ (∀ o v, B32 o → B32 v → Maps.has D (litR o v) = hasR o v rs) ∧ (∀ o v, B32 o → B32 v → ∃ x, D.atKey (litR o v) (.held (.slice none 0 0)) = .held x ∧ RwA 5 K.pc W x (T o v))
theorem ownsMap_size {W : World} {k : TypeId} {R : Value → Option (DataW Value × List MemPlace)} {b n : Nat} {D : DataW Value} (h : W.ownsMap Tryz.prog k R b n D) : W.ownsMap Tryz.prog k R b (Maps.size D) D := by
  obtain ⟨es, clock, hb, F, hs, rfl⟩ := h
  refine ⟨es, clock, hb, F, ?_, rfl⟩
  rw [Maps.size_eq, length_sorted]; simp
theorem zeroRow (w : World) : (zeroValue 66).run Tryz.prog w = .ok (.slice none 0 0) w := Tryz.zeroValue66 w
section
variable {W W' : World} {m : Nat} {rs : List Rl} {T : Tb}
theorem MapT.lt (h : MapT W m rs T) : m < W.heap.size := by obtain ⟨D, h1, -⟩ := h; exact h1.lt
theorem MapT.kept {row : Option Nat} (h : MapT W m rs T) (hg : W.grownBy W' row) (hne : some m ≠ row) (hr : ∀ v ls, RwA 5 K.pc W v ls → RwA 5 K.pc W' v ls) : MapT W' m rs T := by
  obtain ⟨D, h1, h2, h3, h4⟩ := h
  refine ⟨D, h1.kept hg hne, h2, h3, fun o v ho hv => ?_⟩
  obtain ⟨x, hx, hr2⟩ := h4 o v ho hv
  exact ⟨x, hx, hr _ _ hr2⟩
theorem MapT.ext (h : MapT W m rs T) (he : Ext W W') : MapT W' m rs T :=
  h.kept (row := none) ⟨he.os, he.tape, he.output, he.size, fun k hk _ => he.block k hk⟩ (by simp) (fun _ _ h => h.ext he)
/-- What a look-up gives. -/
theorem MapT.look (h : MapT W m rs T) {o v : Int} (ho : B32 o) (hv : B32 v) : ∃ x, RwA 5 K.pc W x (T o v) ∧ ∀ W', Ext W W' → (Instr.lookup 91 (.map (some m)) (.agg #[.int .u32 o, .int .u32 v]) false).run Tryz.prog W' = .ok x W' := by
  obtain ⟨D, h1, h2, h3, h4⟩ := h
  obtain ⟨x, hx, hr⟩ := h4 o v ho hv
  refine ⟨x, hr, fun W' he => ?_⟩
  obtain ⟨y, ps, hrun, hy⟩ := (h1.kept (row := none) ⟨he.os, he.tape, he.output, he.size, fun k hk _ => he.block k hk⟩ (by simp)).lookup Tryz.lawRef Tryz.underlying91 (zeroRow _) (show RV (.slice none 0 0) = some (.held (.slice none 0 0), []) from rfl) (keyRef ho hv)
  rw [hx] at hy
  unfold RV at hy
  simp only [Option.some.injEq, Prod.mk.injEq, DataW.held.injEq] at hy
  rw [← hy.1]; exact hrun
/-- A row of rows is stored at a ref that is there. -/
theorem MapT.put {D : DataW Value} {o v : Int} {x : Value} {l : List (List K)} (ho : B32 o) (hv : B32 v) (h1 : W.ownsMap Tryz.prog 68 RV m (Maps.size D) D) (h2 : Maps.size D ≤ 1000 ∧ Maps.size D = rs.length) (h3 : ∀ o v, B32 o → B32 v → Maps.has D (litR o v) = hasR o v rs) (h4 : ∀ o v, B32 o → B32 v → ∃ x, D.atKey (litR o v) (.held (.slice none 0 0)) = .held x ∧ RwA 5 K.pc W x (T o v))
    (hin : hasR o v rs = true) (h : W'.ownsMap Tryz.prog 68 RV m (Maps.size D + 1) (D.put (litR o v) (.held x))) (hr : ∀ v ls, RwA 5 K.pc W v ls → RwA 5 K.pc W' v ls) (hx : RwA 5 K.pc W x l) : MapT W' m rs (T.put o v l) := by
  have hk := Tryz.lawRef.key (keyRef ho hv)
  have hM := h1.isMap
  have hsz : Maps.size (D.put (litR o v) (.held x)) = Maps.size D := by rw [Maps.size_put (h1.tidy Tryz.lawRef), h3 o v ho hv, hin, if_pos rfl]
  refine ⟨_, ownsMap_size h, by rw [hsz]; exact h2, fun a b ha hb => ?_, fun a b ha hb => ?_⟩
  · by_cases e : a = o ∧ b = v
    · obtain ⟨rfl, rfl⟩ := e
      rw [Maps.has_put_same hM hk, hin]
    · rw [Maps.has_put_other (fun q => e (litR_inj ha hb ho hv q)), h3 a b ha hb]
  · unfold Tb.put
    by_cases e : a = o ∧ b = v
    · rw [if_pos e]
      obtain ⟨rfl, rfl⟩ := e
      exact ⟨x, Maps.atKey_put_same hM hk _ _, hr _ _ hx⟩
    · rw [if_neg e]
      obtain ⟨y, hy, hr2⟩ := h4 a b ha hb
      exact ⟨y, (Maps.atKey_put_other (fun q => e (litR_inj ha hb ho hv q)) _ _).trans hy, hr _ _ hr2⟩
end
/-- A slice's elements do not lie in a block that is no cells. -/
theorem Sl.map {W W' : World} {m k : Nat} {es : Array MapEntry} {cl : Nat} {v : Value} {xss : List (List Value)} (hx : ∀ xs ∈ xss, 0 < xs.length) (hk : 0 < k) (h : Sl W v k xss) (hm : W.heap[m]? = some (.map es cl)) (hg : W.grownBy W' (some m)) : Sl W' v k xss := by
  obtain ⟨a, c, rfl, hs⟩ := h
  rcases hs with hs | ⟨b, o, rfl, hb, hc⟩
  · exact ⟨_, _, rfl, .inl hs⟩
  · by_cases h0 : xss = []
    · exact ⟨_, _, rfl, .inl h0⟩
    · have hne : b ≠ m := fun e => by
        have h1 := hc 0 (List.length_pos_iff.2 h0) 0 hk
        unfold World.cell? at h1
        rw [e] at h1
        simp only [hm] at h1
        have h2 : 0 < (xss.getD 0 []).length := by
          cases xss with
          | nil => exact absurd rfl h0
          | cons x r => exact hx x (List.mem_cons_self ..)
        rw [List.getElem?_eq_getElem h2] at h1
        cases h1
      refine ⟨_, _, rfl, .inr ⟨b, o, rfl, Nat.lt_of_lt_of_le hb hg.size, fun i hi j hj => ?_⟩⟩
      rw [← hc i hi j hj]
      exact World.cell?_of_block (w := W) (hg.block b hb (fun e => hne (by injection e)))
/-- Rows stand while a map's block is turned. -/
theorem RwA.map {W W' : World} {v : Value} {ls : List (List K)} {m : Nat} {es : Array MapEntry} {cl : Nat} (h : RwA 5 K.pc W v ls) (hm : W.heap[m]? = some (.map es cl)) (hg : W.grownBy W' (some m)) : RwA 5 K.pc W' v ls := by
  obtain ⟨a, c, qs, rfl, h1, h2⟩ := h
  refine ⟨a, c, qs, rfl, ⟨Sl.map (fun xs hx => ?_) (by omega) h1.row hm hg, fun q hq => Sl.map (fun xs hx => ?_) (by omega) (h1.sl q hq) hm hg, h1.tag.kp (fun b cs hb => (hg.block b hb.lt (fun e => by
    injection e with e
    subst e
    unfold Blk at hb
    rw [hm] at hb
    cases hb)).trans hb)⟩, h2⟩
  · obtain ⟨q, -, rfl⟩ := List.mem_map.1 hx
    exact Nat.zero_lt_one
  · obtain ⟨q, -, rfl⟩ := List.mem_map.1 hx
    exact Nat.succ_pos 4

end Go.Proofs.YtdgalkljngigeaaGreat
