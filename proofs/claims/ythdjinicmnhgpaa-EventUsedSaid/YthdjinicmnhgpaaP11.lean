/-
All relations of a catalog, as the document's: the laws' Back.
-/
import Derived.Test.YthdjinicmnhgpaaP10
namespace Go.Proofs.Ythdjinicmnhgpaa
open Go.RowKit Go.Shelf
attribute [local go_sem] Oper.semAt_some

theorem run_equalIn_func_nil {P : Program} (w : World) (d : Nat) (t : TypeId) (f : Fn) (xs ys : Array Value) {p : Array TypeId} {r : Array TypeId} {v : Bool} (h : P.underlying t = some (.func p r v)) : (Op.equalIn (d + 1) t (.func f xs ys) .nilFunc).run P w = .ok false w := by
  simp [Op.equalIn, run_underlying h]
@[go_sem] theorem run_eql_func_nil {P : Program} (w : World) (t : TypeId) (f : Fn) (xs ys : Array Value) {p : Array TypeId} {r : Array TypeId} {v : Bool} (h : P.underlying t = some (.func p r v)) : (binOp .eql t (.func f xs ys) .nilFunc).run P w = .ok (.bool false) w := by
  have e : (Op.equal t (.func f xs ys) .nilFunc).run P w = .ok false w := by
    exact run_equalIn_func_nil w 9999 t f xs ys h
  simp [binOp, e]

theorem stepIn_append {F : Fence} {n : Nat} {P : Program} {ops : Array Oper} {o : Oper} {a : Act} {w : World} {K : Act → World → Prop} {Q : Exit → Act → World → Prop} {E : Prop} (hg : o.guard = none) (s x : Operand) (t : TypeId) (hop : o.op = Op.call { callee := Callee.builtin Builtin.append, args := #[s, x], argTypes := #[t, t] })
    (v u : Value) (hs : a.eval s = v) (hx : a.eval x = u) {v' : Value} {w' : World} (hrun : (Builtin.append_ #[t, t] o.type #[v, u]).run P w = .ok v' w') (hK : K (a.put o.dst v') w') : if Region.wanted o (yielded ops a.tmps) = true then Oper.wpIn F n P o a w K Q else E := by
  rw [if_pos (by simp [Region.wanted, hg])]
  unfold Oper.wpIn
  refine ⟨?_, ?_⟩
  · simp [Oper.about, hop, resolve, Target.leads, Sem.run_pure]
  · rw [Oper.semAt_plain F _ _ (by rw [hop]; intro c hc'; cases hc')]
    simp [execOp, hop, resolve, invoke, builtin, hs, hx, hrun, Result.andThen]
    exact hK

/-- Relations of the document of the call's own, in a row of its own. -/
structure BkR (W : World) (N : Nat) (rs : List Rl) (v : Value) (qs : List RR) : Prop where
  own : W.ownsRow N 49 5 v qs.length (qs.map RR.cells).flatten
  r : qs.map RR.r = rs
  sl : ∀ q ∈ qs, q.rowned N W
  ne : ∀ q ∈ qs, ∀ b o, q.a = some ⟨b, o, none⟩ → v.ownBlock ≠ some b
theorem BkR.nil (W : World) (N : Nat) : BkR W N [] (.slice none 0 0) [] := ⟨World.ownsRow_nil _ _ _ _, rfl, (fun q h => by cases h), (fun q h => by cases h)⟩
theorem BkR.ext {W W' : World} {N : Nat} {rs : List Rl} {qs : List RR} {v : Value} (h : BkR W N rs v qs) (he : Ext W W') : BkR W' N rs v qs := ⟨owns_ext h.own he, h.r, fun q hq => (h.sl q hq).ext he, h.ne⟩
theorem rowned_kp {S : Nat → Prop} {W W' : World} {N : Nat} {x : RR} (h2 : x.rowned N W) (hk1 : Kp S W W') (h3 : ∀ b o, x.a = some ⟨b, o, none⟩ → ¬ S b) : x.rowned N W' := by
  refine owns_kp h2 hk1 (fun b hb => ?_)
  obtain ⟨xr, xa, xc⟩ := x
  cases xa with
  | none => cases hb
  | some ad =>
    obtain ⟨b', o', sp⟩ := ad
    have hb' : b' = b := by simpa [Value.ownBlock] using hb
    subst hb'
    rcases h2.2 with ⟨hv, -⟩ | ⟨g, cap, cur, hv, -⟩
    · cases hv
    · simp only [Value.slice.injEq, Option.some.injEq, Addr.mk.injEq] at hv
      obtain ⟨⟨rfl, rfl, rfl⟩, -⟩ := hv
      exact h3 _ _ rfl
theorem BkR.kept {W W' : World} {N : Nat} {rs : List Rl} {qs : List RR} {v : Value} {row : Option Nat} (h : BkR W N rs v qs) (hg : W.grownBy W' row) (hr : ∀ r, row = some r → ∃ o : Obj, W.heap[r]? = some o ∧ o.isCells = false) : BkR W' N rs v qs :=
  ⟨owns_kept h.own hg hr, h.r, fun q hq => owns_kept (h.sl q hq) hg hr, h.ne⟩
theorem BkR.set {W : World} {N : Nat} {rs : List Rl} {qs : List RR} {v : Value} (h : BkR W N rs v qs) {p : Addr} (hp : p.block < N) (u : Value) : BkR (W.setCell p u) N rs v qs := ⟨owns_set h.own hp u, h.r, fun q hq => owns_set (h.sl q hq) hp u, h.ne⟩
theorem BkR.push {W W' : World} {N : Nat} {rs : List Rl} {qs : List RR} {v v' : Value} {q : RR} (h : BkR W N rs v qs) (hs : q.rowned N W) (hn : ∀ b o, q.a = some ⟨b, o, none⟩ → v.ownBlock ≠ some b)
    (hg : W.grownBy W' v.ownBlock) (hat : v'.ownBlock = v.ownBlock ∨ v'.ownBlock = some W.heap.size) (ho : W'.ownsRow N 49 5 v' (qs.length + 1) ((qs.map RR.cells).flatten ++ q.cells)) : BkR W' N (rs ++ [q.r]) v' (qs ++ [q]) := by
  have hall : ∀ x ∈ qs ++ [q], x.rowned N W ∧ ∀ b o, x.a = some ⟨b, o, none⟩ → v.ownBlock ≠ some b := fun x hx => by
    rcases List.mem_append.1 hx with hx | hx
    · exact ⟨h.sl x hx, h.ne x hx⟩
    · obtain rfl : x = q := by simpa using hx
      exact ⟨hs, hn⟩
  refine ⟨by simpa using ho, by rw [List.map_append, h.r]; rfl, fun x hx => rowned_kp (hall x hx).1 (Kp.of_grown hg) (hall x hx).2, fun x hx b o e => ?_⟩
  obtain ⟨h2, h3⟩ := hall x hx
  rcases hat with h4 | h4
  · rw [h4]; exact h3 b o e
  · rw [h4]; intro h5; injection h5 with h5
    have := (h2.at_ e).2; omega
theorem BkR.rl {W : World} {N : Nat} {rs : List Rl} {qs : List RR} {v : Value} (h : BkR W N rs v qs) : RL W v qs := ⟨Sl.of_owns (base := N) (e := 49) (by rw [List.length_map]; exact h.own) (RR.len qs), fun q hq => (h.sl q hq).in⟩

set_option maxRecDepth 100000 in
set_option maxHeartbeats 8000000 in
theorem back9_in (F : Fence) (n : Nat) (hFe : F = Fence.wide) (h1F : F.fn 81) (hAF : F.fn 52) (hOF : F.fn 51) (hBF : F.fn 23) (hDF : F.fn 16) (hro : F.round = none) (hn : 4 ≤ n) (N g : Nat) (c : Value) (ps : List RR) (w : World) (hc : Ca w N g c ps) :
    CallsIn F n Try.prog 16 #[.pointer (some ⟨g, 0, none⟩)] w fun e w' => ∃ a' c' qs, e = .returned (.tuple #[.slice a' qs.length c', .bool true]) ∧ BkR w' w.heap.size (ps.map RR.r) (.slice a' qs.length c') qs ∧ Ext w w' := by
  have h1 : 1 ≤ n := by omega
  have HC := Hid.mk' hc
  have HB8 := Hid.mk' (fun m (p : RR) W (h : p.in W) (hn : p.r.cols.length ≤ 1000) => (show CallsIn F m Try.prog 23 #[p.agg] W _ from by rw [hFe]; exact callsIn_wide.2 (pback_own p W h hn)))
  obtain ⟨i0, hi, hz0, hz1, hz2⟩ := info_parts Try.infoRRel
  have HFE := Hid.mk' hFe
  have mixed : Try.prog.follows .mixedOrders = true := by kernel_rfl
  have hfn : ∀ (W : World) (ys : Array Value), (binOp .eql 118 (.func (.func 81) #[] ys) .nilFunc).run Try.prog W = .ok (.bool false) W := fun W ys => run_eql_func_nil W _ _ _ _ (show Try.prog.underlying 118 = some (.func #[149] #[] false) by kernel_rfl)
  clear hc hFe
  refine callsIn_of_wp_marks Try.func16 rfl hDF ?_ hro
  simp only [Try.ntmps16, List.size_toArray, List.length_cons, List.length_nil, Nat.reduceAdd, Nat.reduceSub, Array.replicate_succ, Array.replicate_zero, List.push_toArray, List.append_toArray, List.nil_append, List.cons_append]
  gi_wp2_with (gi_at_call 52; refine (all_in F (n - 1) hAF hro _ _).mono ?_; rintro e w' ⟨rfl, rfl⟩)
  have hE4 : Ext w ((((w.alloc (.cells #[.slice none 0 0] 22)).alloc (.cells #[.bool false] 4)).alloc (.cells #[.slice none 0 0] 22)).alloc (.cells #[.pointer (some ⟨g, 0, none⟩)] 27)) := by (repeat (with_reducible (first | exact Ext.refl _ | assumption | exact held_left (by assumption) | apply Ext.drewN | apply Ext.drew | apply Ext.alloc | (refine Ext.setCell ?_ (by first | (simp; done) | (simp; omega) | omega) _) | (refine Ext.trans ?_ (by assumption)) | (refine Ext.trans ?_ (held_left (by assumption))))))
  have hB4 : Blk ((((w.alloc (.cells #[.slice none 0 0] 22)).alloc (.cells #[.bool false] 4)).alloc (.cells #[.slice none 0 0] 22)).alloc (.cells #[.pointer (some ⟨g, 0, none⟩)] 27)) (w.heap.size + 1 + 1 + 1) #[.pointer (some ⟨g, 0, none⟩)] 27 := Blk.new' _ _ (by simp)
  obtain ⟨W4, hW4⟩ : ∃ W4, W4 = ((((w.alloc (.cells #[.slice none 0 0] 22)).alloc (.cells #[.bool false] 4)).alloc (.cells #[.slice none 0 0] 22)).alloc (.cells #[.pointer (some ⟨g, 0, none⟩)] 27)) := ⟨_, rfl⟩
  have hz4 : W4.heap.size = w.heap.size + 1 + 1 + 1 + 1 := by rw [hW4]; simp
  have hR0 : Blk W4 w.heap.size #[.slice none 0 0] 22 := by rw [hW4]; exact (((Blk.new _ _ _).alloc _).alloc _).alloc _
  have hR1 : Blk W4 (w.heap.size + 1) #[.bool false] 4 := by rw [hW4]; exact ((Blk.new' _ _ (by simp)).alloc _).alloc _
  have hR2 : Blk W4 (w.heap.size + 1 + 1) #[.slice none 0 0] 22 := by rw [hW4]; exact (Blk.new' _ _ (by simp)).alloc _
  rw [← hW4] at hE4 hB4 ⊢
  have HE4 := Hid.mk' hE4
  clear hW4 hE4
  clear hfn
  refine wpIn_range_told hro h1 (gf := 81) (lb := #[.pointer (some ⟨w.heap.size + 1 + 1 + 1, 0, none⟩)]) rfl h1F (enters_of Try.func81 (by kernel_rfl) rfl)
    (all_told F (n - 1) HFE.out h1F hOF hro (by omega) (w.heap.size + 1 + 1 + 1) w W4 N g c ps HC.out HE4.out (hB4.cell 0) hB4.lt) (by omega) (Below.refl _ _) (fun _ => rfl)
    (fun pre W => (∃ a' c' qs, Blk W (w.heap.size + 1 + 1) #[.slice a' qs.length c'] 22 ∧ Hid (BkR W (w.heap.size + 1 + 1 + 1) (pre.map RR.r) (.slice a' qs.length c') qs)) ∧ Blk W w.heap.size #[.slice none 0 0] 22 ∧ Blk W (w.heap.size + 1) #[.bool false] 4 ∧ Hid (Below w.heap.size w W ∧ W4.heap.size ≤ W.heap.size)) ?hI
    ⟨⟨none, 0, [], hR2, Hid.mk' (BkR.nil _ _)⟩, hR0, hR1, Hid.mk' ⟨HE4.out, Nat.le_refl _⟩⟩
    (fun x a' W => ∃ X Y, a' = { tmps := #[.pointer (some ⟨g, 0, none⟩), undef, .pointer (some ⟨w.heap.size, 0, none⟩), .pointer (some ⟨w.heap.size + 1, 0, none⟩), .pointer (some ⟨w.heap.size + 1 + 1, 0, none⟩), .func (.func 81) #[] #[.pointer (some ⟨w.heap.size + 1 + 1 + 1, 0, none⟩)], .pointer (some ⟨X, 0, none⟩), .pointer (some ⟨Y, 0, none⟩), .pointer (some ⟨g, 0, none⟩), .bool false, .pointer (some ⟨g, 0, none⟩), .func (.func 81) #[] #[.pointer (some ⟨w.heap.size + 1 + 1 + 1, 0, none⟩)], .func (.func 81) #[] #[.pointer (some ⟨w.heap.size + 1 + 1 + 1, 0, none⟩)], .bool false, .func (.func 81) #[] #[.pointer (some ⟨w.heap.size + 1 + 1 + 1, 0, none⟩)], .agg #[.int .u32 x.r.oid, .int .u32 x.r.ver], .agg #[.int .u32 x.r.oid, .int .u32 x.r.ver, .string x.r.nm, .int .u8 x.r.id, .slice x.a x.r.cols.length x.c], undef, undef, undef, undef, undef, undef, undef, undef, undef, undef], defers := [] } ∧ W4.heap.size ≤ X ∧ W4.heap.size ≤ Y ∧ Blk W X #[.int .u32 x.r.oid, .int .u32 x.r.ver] 33 ∧ Blk W Y #[.int .u32 x.r.oid, .int .u32 x.r.ver, .string x.r.nm, .int .u8 x.r.id, .slice x.a x.r.cols.length x.c] 36 ∧ x.in W ∧ x.r.cols.length ≤ 1000)
    ?hAx ?assign ?body ?done
  case hI =>
    rintro s A B row ⟨⟨a', c', qs, q1, q2⟩, q3, q4, q5⟩ hg hr
    have hr2 : ∀ r, row = some r → ∃ o : Obj, A.heap[r]? = some o ∧ o.isCells = false := fun r e => (hr r e).2
    have hk : ∀ {b : Nat} {cs : Array Value} {t : TypeId}, Blk A b cs t → Blk B b cs t := fun {b cs t} hb => hb.kp (Kp.of_grown hg) (fun e => by
      obtain ⟨ob, ho, hn⟩ := hr2 b e
      rw [show A.heap[b]? = _ from hb] at ho; cases ho; simp [Obj.isCells] at hn)
    exact ⟨⟨a', c', qs, hk q1, Hid.mk' (q2.out.kept hg hr2)⟩, hk q3, hk q4, Hid.mk' ⟨q5.out.1.grown hg (by have := q5.out.2; omega) (fun k e => by have := (hr k e).1; omega), Nat.le_trans q5.out.2 hg.size⟩⟩
  case hAx =>
    rintro x a' W l o' ⟨X, Y, q1, q2, q3, q4, q5, q6, q7⟩ hl ⟨ob, hob, hnc⟩
    have hg := grownBy_putObj' W l o'
    have hk : ∀ {b : Nat} {cs : Array Value} {t : TypeId}, Blk W b cs t → Blk (W.putObj l o') b cs t := fun {b cs t} hb => hb.kp (Kp.of_grown hg) (fun e => by
      injection e with e
      subst e
      rw [show W.heap[l]? = _ from hb] at hob; cases hob; simp [Obj.isCells] at hnc)
    refine ⟨X, Y, q1, q2, q3, hk q4, hk q5, Sl.kp q6 (Kp.of_grown hg) (fun h0 b o e e2 => ?_), q7⟩
    injection e2 with e2
    subst e2
    obtain ⟨b', o2, e3, hb3, hc3⟩ := Sl.at_ q6 (i := 0) (List.length_pos_iff.2 h0)
    rw [e] at e3; cases e3
    have h5 := hc3 0 (by omega)
    unfold World.cell? at h5
    rw [show W.heap[l]? = some ob from hob] at h5
    cases hxx : x.r.cols with
    | nil => rw [hxx] at h0; exact h0 rfl
    | cons d ds =>
      rw [hxx] at h5
      cases ob <;> simp [Obj.isCells, Col.cells] at hnc h5
  case assign =>
    rintro l pre x W K ⟨⟨a', c', qs, q1, q2⟩, q3, q4, q5⟩ ⟨hx1, hx2⟩ hK
    have hzW := q5.out.2
    unfold encA
    rw [fold_two]
    gi_wp2
    have hEW : Ext W ((W.alloc (.cells #[.int .u32 x.r.oid, .int .u32 x.r.ver] 33)).alloc (.cells #[.int .u32 x.r.oid, .int .u32 x.r.ver, .string x.r.nm, .int .u8 x.r.id, .slice x.a x.r.cols.length x.c] 36)) := by (repeat (with_reducible (first | exact Ext.refl _ | assumption | exact held_left (by assumption) | apply Ext.drewN | apply Ext.drew | apply Ext.alloc | (refine Ext.setCell ?_ (by first | (simp; done) | (simp; omega) | omega) _) | (refine Ext.trans ?_ (by assumption)) | (refine Ext.trans ?_ (held_left (by assumption))))))
    exact hK _ _ (((KeepsOthers.alloc _ _).trans (KeepsOthers.alloc _ _)).from _) (hEW.mono (by omega)) ⟨⟨a', c', qs, q1.ext hEW, Hid.mk' (q2.out.ext hEW)⟩, q3.ext hEW, q4.ext hEW, Hid.mk' ⟨q5.out.1.trans (hEW.mono (by omega)), by simp; omega⟩⟩
      ⟨W.heap.size, W.heap.size + 1, rfl, hzW, by omega, (Blk.new _ _ _).alloc _, Blk.new' _ _ (by simp), hx1.ext hEW, hx2⟩
  case body =>
    rintro l pre x a' W ⟨⟨av, cv, qs, q1, q2⟩, q3, q4, q5⟩ hlen ⟨X, Y, rfl, hX, hY, hbX, hbY, hxi, hxn⟩
    have h11 : 1 ≤ n - 1 - 1 := by omega
    obtain ⟨⟨oid, ver, nm, id, cols⟩, a2, c2⟩ := x
    simp only at hbX hbY hxn ⊢
    have HX := Hid.mk' (fun m W' (h : Ext W W') => HB8.out m (⟨⟨oid, ver, nm, id, cols⟩, a2, c2⟩ : RR) W' (hxi.ext h) hxn)
    unfold RR.agg at HX
    have HQ1 := Hid.mk' q1
    have HQ3 := Hid.mk' q3
    have HQ4 := Hid.mk' q4
    have g1 := q1.cell
    have g1f := q1.frozen
    have g1z := q1.lt
    have gX := hbX.cell
    have gXz := hbX.lt
    have gY := hbY.cell
    have gYz := hbY.lt
    have hbYk := hbY
    clear hxi hbX hbY q1 q3 q4
    have hql : qs.length ≤ 64 := by
      have h1 := congrArg List.length q2.out.r
      have h2 := HC.out.n64
      simp only [List.length_map] at h1
      omega
    have hNB : Hid (∀ b, (Value.slice av qs.length cv).ownBlock = some b → w.heap.size + 1 + 1 + 1 ≤ b ∧ b < W.heap.size) := Hid.mk' (fun b hb => q2.out.own.lt b hb)
    have hz5 := q5.out.2
    clear hlen
    gi_wp2
    have HbY := Hid.mk' hbYk
    have HFIN : Hid (∀ (w5 w6 : World) a' c' a6 c6, Ext W w5 → RR.rowned W.heap.size w5 (⟨⟨oid, ver, nm, id, cols⟩, a', c'⟩ : RR) → w6.ownsRow (w.heap.size + 1 + 1 + 1) 49 5 (.slice a6 (qs.length + 1) c6) (qs.length + 1) ((qs.map RR.cells).flatten ++ RR.cells (⟨⟨oid, ver, nm, id, cols⟩, a', c'⟩ : RR)) →
        (w5.alloc (.cells #[.int .u32 oid, .int .u32 ver, .string nm, .int .u8 id, .slice a' cols.length c'] 49)).grownBy w6 (Value.slice av qs.length cv).ownBlock → ((Value.slice a6 (qs.length + 1) c6).ownBlock = (Value.slice av qs.length cv).ownBlock ∨ (Value.slice a6 (qs.length + 1) c6).ownBlock = some (w5.alloc (.cells #[.int .u32 oid, .int .u32 ver, .string nm, .int .u8 id, .slice a' cols.length c'] 49)).heap.size) → Blk w6 (w.heap.size + 1 + 1) #[.slice av qs.length cv] 22 →
        KeepsFrom W4.heap.size W (w6.setCell ⟨w.heap.size + 1 + 1, 0, none⟩ (.slice a6 (qs.length + 1) c6)) ∧ Below w.heap.size W (w6.setCell ⟨w.heap.size + 1 + 1, 0, none⟩ (.slice a6 (qs.length + 1) c6)) ∧
        (∃ a' c' qs', Blk (w6.setCell ⟨w.heap.size + 1 + 1, 0, none⟩ (.slice a6 (qs.length + 1) c6)) (w.heap.size + 1 + 1) #[.slice a' qs'.length c'] 22 ∧ Hid (BkR (w6.setCell ⟨w.heap.size + 1 + 1, 0, none⟩ (.slice a6 (qs.length + 1) c6)) (w.heap.size + 1 + 1 + 1) ((pre ++ [(⟨⟨oid, ver, nm, id, cols⟩, a2, c2⟩ : RR)]).map RR.r) (.slice a' qs'.length c') qs')) ∧ Blk (w6.setCell ⟨w.heap.size + 1 + 1, 0, none⟩ (.slice a6 (qs.length + 1) c6)) w.heap.size #[.slice none 0 0] 22 ∧ Blk (w6.setCell ⟨w.heap.size + 1 + 1, 0, none⟩ (.slice a6 (qs.length + 1) c6)) (w.heap.size + 1) #[.bool false] 4 ∧ Hid (Below w.heap.size w (w6.setCell ⟨w.heap.size + 1 + 1, 0, none⟩ (.slice a6 (qs.length + 1) c6)) ∧ W4.heap.size ≤ (w6.setCell ⟨w.heap.size + 1 + 1, 0, none⟩ (.slice a6 (qs.length + 1) c6)).heap.size)) := Hid.mk' (fun w5 w6 a' c' a6 c6 hx5 hqo ho6 hg6 hat6 hb6 => by
      have hEa := hx5.alloc (.cells #[.int .u32 oid, .int .u32 ver, .string nm, .int .u8 id, .slice a' cols.length c'] 49)
      have hk1 : Kp (fun k => (Value.slice av qs.length cv).ownBlock = some k) W w6 := (Kp.of_ext hEa).trans (Kp.of_grown hg6) (fun x hx _ => hx)
      have hk2 : Kp (fun k => (Value.slice av qs.length cv).ownBlock = some k ∨ k = w.heap.size + 1 + 1) W (w6.setCell ⟨w.heap.size + 1 + 1, 0, none⟩ (.slice a6 (qs.length + 1) c6)) :=
        (hk1.mono (T := fun k => (Value.slice av qs.length cv).ownBlock = some k ∨ k = w.heap.size + 1 + 1) (fun x hx _ => .inl hx)).trans (Kp.set (S := fun k => k = w.heap.size + 1 + 1) _ _ rfl) (fun x hx _ => .inr hx)
      have hpush := (q2.out.ext hEa).push (q := ⟨⟨oid, ver, nm, id, cols⟩, a', c'⟩) ((RR.rowned.ext hqo ((Ext.refl w5).alloc _)).mono (by omega)) (fun b o e h4 => by
        have h5 := (hNB.out b h4).2
        have h6 := (RR.rowned.at_ hqo e).1
        omega) hg6 hat6 ho6
      refine ⟨⟨hk2.size, fun k ob hk hob hnc => (hk2.block k (Array.getElem?_eq_some_iff.1 hob).1 (fun hs => ?_)).trans hob⟩, ⟨hk2.os, hk2.tape, hk2.output, hk2.size, fun k hk => hk2.block k (by omega) (fun hs => ?_)⟩, ⟨a6, c6, qs ++ [⟨⟨oid, ver, nm, id, cols⟩, a', c'⟩], ?_, Hid.mk' ?_⟩, ?_, ?_, Hid.mk' ⟨?_, Nat.le_trans hz5 hk2.size⟩⟩
      · rcases hs with hs | hs
        · rcases q2.out.own.2 with ⟨hv, -⟩ | ⟨gg, cap, cur, hv, -, hh, -⟩
          · rw [hv] at hs; cases hs
          · rw [hv] at hs
            have : gg = k := by simpa [Value.ownBlock] using hs
            subst this
            rw [hh] at hob; cases hob; simp [Obj.isCells] at hnc
        · omega
      · rcases hs with hs | hs
        · have := (hNB.out k hs).1; omega
        · omega
      · have := hb6.set 0 (.slice a6 (qs.length + 1) c6)
        simpa using this
      · have := hpush.set (p := ⟨w.heap.size + 1 + 1, 0, none⟩) (by show w.heap.size + 1 + 1 < _; omega) (.slice a6 (qs.length + 1) c6)
        simpa using this
      · exact HQ3.out.kp hk2 (fun hs => by rcases hs with hs | hs; · (have := (hNB.out _ hs).1; omega)
                                           · omega)
      · exact HQ4.out.kp hk2 (fun hs => by rcases hs with hs | hs; · (have := (hNB.out _ hs).1; omega)
                                           · omega)
      · exact Kp.ext q5.out.1 (fun x hs hx => by rcases hs with hs | hs; · (have := (hNB.out _ hs).1; omega)
                                                 · omega) hk2)
    refine wpIn_region_any mixed ?_
    change wpAnyIn _ _ _ _ _ _ _ _ _ (World.drew _)
    refine wpAnyIn_ready (rs := [0, 1]) (by kernel_rfl) (by simp) ?_
    refine AllReadyIn.cons rfl (fun K hK => ?_) ?_
    · skip
      (go_simp; refine hK _ _ ?_; clear hK K)
      refine wpAnyIn_ready (rs := [1]) (by kernel_rfl) (by simp) ?_
      refine AllReadyIn.cons rfl (fun K hK => ?_) ?_
      · skip
        (go_simp; refine hK _ _ ?_; clear hK K)
        refine wpAnyIn_ready (rs := [2]) (by kernel_rfl) (by simp) ?_
        refine AllReadyIn.cons rfl (fun K hK => ?_) ?_
        · skip
          (go_simp; gi_wp2_with (gi_at_call 23; refine (CallsIn.inRound l (HX.out _ _ (by (repeat (with_reducible (first | exact Ext.refl _ | assumption | exact held_left (by assumption) | apply Ext.drewN | apply Ext.drew | apply Ext.alloc | (refine Ext.setCell ?_ (by first | (simp; done) | (simp; omega) | omega) _) | (refine Ext.trans ?_ (by assumption)) | (refine Ext.trans ?_ (held_left (by assumption))))))))).mono ?_; rintro e w5 ⟨⟨r', a', c'⟩, rfl, hqr, hqo, hb5⟩; simp only at hqr; subst hqr; have HX5 := Hid.mk' (show Ext W w5 by (repeat (with_reducible (first | exact Ext.refl _ | assumption | exact held_left (by assumption) | apply Ext.drewN | apply Ext.drew | apply Ext.alloc | (refine Ext.setCell ?_ (by first | (simp; done) | (simp; omega) | omega) _) | (refine Ext.trans ?_ (by assumption)) | (refine Ext.trans ?_ (held_left (by assumption))))))); have HQO := Hid.mk' hqo; have g5 := (HQ1.out.ext HX5.out).cell; have z5 := (HQ1.out.ext HX5.out).lt; have gY5 := (HbY.out.ext HX5.out).cell; have zY5 := (HbY.out.ext HX5.out).lt; clear hqo hb5; try simp only))
          refine wpAnyIn_ready (rs := [3]) (by kernel_rfl) (by simp) ?_
          refine AllReadyIn.cons rfl (fun K hK => ?_) ?_
          · skip
            (go_simp; refine hK _ _ ?_; clear hK K)
            refine wpAnyIn_ready (rs := [4]) (by kernel_rfl) (by simp) ?_
            refine AllReadyIn.cons rfl (fun K hK => ?_) ?_
            · skip
              obtain ⟨v6, w6, hr6, ho6, hg6, -, hat6⟩ := run_append_own_at (P := Try.prog) (w5.alloc (.cells #[.int .u32 oid, .int .u32 ver, .string nm, .int .u8 id, .slice a' cols.length c'] 49)) (w.heap.size + 1 + 1 + 1) 22 22 49 i0 _ 5 56 Try.underlying22 hi hz0 hz1 hz2 rfl (by decide) (.slice av qs.length cv) qs.length _ (owns_ext q2.out.own (HX5.out.alloc _)) ⟨w5.heap.size, 0, none⟩ 1 1 (RR.cells ⟨⟨oid, ver, nm, id, cols⟩, a', c'⟩) rfl (cells_new _ #[.int .u32 oid, .int .u32 ver, .string nm, .int .u8 id, .slice a' cols.length c'] _) (by intro u hu; simp [RR.cells] at hu; rcases hu with rfl | rfl | rfl | rfl | rfl <;> rfl) (by unfold maxLen; omega) (by omega) (by have := HX5.out.size; simp; omega)
              obtain ⟨a6, c6, rfl⟩ := owns_shape ho6
              have HO6 := Hid.mk' ho6
              have HG6 := Hid.mk' hg6
              have HAT6 := Hid.mk' hat6
              have hb6 : Blk w6 (w.heap.size + 1 + 1) #[.slice av qs.length cv] 22 := (hg6.block _ (by have := HX5.out.size; simp; omega) (fun e => by have := (hNB.out _ e.symm).1; omega)).trans ((HQ1.out.ext HX5.out).alloc _)
              have HB6 := Hid.mk' hb6
              have g6 := hb6.cell
              have g6f := hb6.frozen
              have g6z := hb6.lt
              clear ho6 hg6 hat6 hb6
              (refine stepIn_append rfl _ _ 22 rfl (.slice av qs.length cv) (.slice (some ⟨w5.heap.size, 0, none⟩) 1 1) (by simp [Act.eval]) (by simp [Act.eval]) hr6 ?_; refine hK _ _ ?_; clear hK K)
              refine wpAnyIn_ready (rs := [5]) (by kernel_rfl) (by simp) ?_
              refine AllReadyIn.cons rfl (fun K hK => ?_) ?_
              · skip
                (go_simp; refine hK _ _ ?_; clear hK K)
                refine wpAnyIn_done (by kernel_rfl) ?_ _
                gi_wp2
                exact HFIN.out w5 w6 a' c' a6 c6 HX5.out HQO.out HO6.out HG6.out HAT6.out HB6.out
              exact AllReadyIn.nil
            exact AllReadyIn.nil
          exact AllReadyIn.nil
        exact AllReadyIn.nil
      exact AllReadyIn.nil
    refine AllReadyIn.cons rfl (fun K hK => ?_) ?_
    · skip
      (go_simp; refine hK _ _ ?_; clear hK K)
      refine wpAnyIn_ready (rs := [0, 2]) (by kernel_rfl) (by simp) ?_
      refine AllReadyIn.cons rfl (fun K hK => ?_) ?_
      · skip
        (go_simp; refine hK _ _ ?_; clear hK K)
        refine wpAnyIn_ready (rs := [2]) (by kernel_rfl) (by simp) ?_
        refine AllReadyIn.cons rfl (fun K hK => ?_) ?_
        · skip
          (go_simp; gi_wp2_with (gi_at_call 23; refine (CallsIn.inRound l (HX.out _ _ (by (repeat (with_reducible (first | exact Ext.refl _ | assumption | exact held_left (by assumption) | apply Ext.drewN | apply Ext.drew | apply Ext.alloc | (refine Ext.setCell ?_ (by first | (simp; done) | (simp; omega) | omega) _) | (refine Ext.trans ?_ (by assumption)) | (refine Ext.trans ?_ (held_left (by assumption))))))))).mono ?_; rintro e w5 ⟨⟨r', a', c'⟩, rfl, hqr, hqo, hb5⟩; simp only at hqr; subst hqr; have HX5 := Hid.mk' (show Ext W w5 by (repeat (with_reducible (first | exact Ext.refl _ | assumption | exact held_left (by assumption) | apply Ext.drewN | apply Ext.drew | apply Ext.alloc | (refine Ext.setCell ?_ (by first | (simp; done) | (simp; omega) | omega) _) | (refine Ext.trans ?_ (by assumption)) | (refine Ext.trans ?_ (held_left (by assumption))))))); have HQO := Hid.mk' hqo; have g5 := (HQ1.out.ext HX5.out).cell; have z5 := (HQ1.out.ext HX5.out).lt; have gY5 := (HbY.out.ext HX5.out).cell; have zY5 := (HbY.out.ext HX5.out).lt; clear hqo hb5; try simp only))
          refine wpAnyIn_ready (rs := [3]) (by kernel_rfl) (by simp) ?_
          refine AllReadyIn.cons rfl (fun K hK => ?_) ?_
          · skip
            (go_simp; refine hK _ _ ?_; clear hK K)
            refine wpAnyIn_ready (rs := [4]) (by kernel_rfl) (by simp) ?_
            refine AllReadyIn.cons rfl (fun K hK => ?_) ?_
            · skip
              obtain ⟨v6, w6, hr6, ho6, hg6, -, hat6⟩ := run_append_own_at (P := Try.prog) (w5.alloc (.cells #[.int .u32 oid, .int .u32 ver, .string nm, .int .u8 id, .slice a' cols.length c'] 49)) (w.heap.size + 1 + 1 + 1) 22 22 49 i0 _ 5 56 Try.underlying22 hi hz0 hz1 hz2 rfl (by decide) (.slice av qs.length cv) qs.length _ (owns_ext q2.out.own (HX5.out.alloc _)) ⟨w5.heap.size, 0, none⟩ 1 1 (RR.cells ⟨⟨oid, ver, nm, id, cols⟩, a', c'⟩) rfl (cells_new _ #[.int .u32 oid, .int .u32 ver, .string nm, .int .u8 id, .slice a' cols.length c'] _) (by intro u hu; simp [RR.cells] at hu; rcases hu with rfl | rfl | rfl | rfl | rfl <;> rfl) (by unfold maxLen; omega) (by omega) (by have := HX5.out.size; simp; omega)
              obtain ⟨a6, c6, rfl⟩ := owns_shape ho6
              have HO6 := Hid.mk' ho6
              have HG6 := Hid.mk' hg6
              have HAT6 := Hid.mk' hat6
              have hb6 : Blk w6 (w.heap.size + 1 + 1) #[.slice av qs.length cv] 22 := (hg6.block _ (by have := HX5.out.size; simp; omega) (fun e => by have := (hNB.out _ e.symm).1; omega)).trans ((HQ1.out.ext HX5.out).alloc _)
              have HB6 := Hid.mk' hb6
              have g6 := hb6.cell
              have g6f := hb6.frozen
              have g6z := hb6.lt
              clear ho6 hg6 hat6 hb6
              (refine stepIn_append rfl _ _ 22 rfl (.slice av qs.length cv) (.slice (some ⟨w5.heap.size, 0, none⟩) 1 1) (by simp [Act.eval]) (by simp [Act.eval]) hr6 ?_; refine hK _ _ ?_; clear hK K)
              refine wpAnyIn_ready (rs := [5]) (by kernel_rfl) (by simp) ?_
              refine AllReadyIn.cons rfl (fun K hK => ?_) ?_
              · skip
                (go_simp; refine hK _ _ ?_; clear hK K)
                refine wpAnyIn_done (by kernel_rfl) ?_ _
                gi_wp2
                exact HFIN.out w5 w6 a' c' a6 c6 HX5.out HQO.out HO6.out HG6.out HAT6.out HB6.out
              exact AllReadyIn.nil
            exact AllReadyIn.nil
          exact AllReadyIn.nil
        exact AllReadyIn.nil
      refine AllReadyIn.cons rfl (fun K hK => ?_) ?_
      · skip
        (go_simp; gi_wp2_with (gi_at_call 23; refine (CallsIn.inRound l (HX.out _ _ (by (repeat (with_reducible (first | exact Ext.refl _ | assumption | exact held_left (by assumption) | apply Ext.drewN | apply Ext.drew | apply Ext.alloc | (refine Ext.setCell ?_ (by first | (simp; done) | (simp; omega) | omega) _) | (refine Ext.trans ?_ (by assumption)) | (refine Ext.trans ?_ (held_left (by assumption))))))))).mono ?_; rintro e w5 ⟨⟨r', a', c'⟩, rfl, hqr, hqo, hb5⟩; simp only at hqr; subst hqr; have HX5 := Hid.mk' (show Ext W w5 by (repeat (with_reducible (first | exact Ext.refl _ | assumption | exact held_left (by assumption) | apply Ext.drewN | apply Ext.drew | apply Ext.alloc | (refine Ext.setCell ?_ (by first | (simp; done) | (simp; omega) | omega) _) | (refine Ext.trans ?_ (by assumption)) | (refine Ext.trans ?_ (held_left (by assumption))))))); have HQO := Hid.mk' hqo; have g5 := (HQ1.out.ext HX5.out).cell; have z5 := (HQ1.out.ext HX5.out).lt; have gY5 := (HbY.out.ext HX5.out).cell; have zY5 := (HbY.out.ext HX5.out).lt; clear hqo hb5; try simp only))
        refine wpAnyIn_ready (rs := [0, 3]) (by kernel_rfl) (by simp) ?_
        refine AllReadyIn.cons rfl (fun K hK => ?_) ?_
        · skip
          (go_simp; refine hK _ _ ?_; clear hK K)
          refine wpAnyIn_ready (rs := [3]) (by kernel_rfl) (by simp) ?_
          refine AllReadyIn.cons rfl (fun K hK => ?_) ?_
          · skip
            (go_simp; refine hK _ _ ?_; clear hK K)
            refine wpAnyIn_ready (rs := [4]) (by kernel_rfl) (by simp) ?_
            refine AllReadyIn.cons rfl (fun K hK => ?_) ?_
            · skip
              obtain ⟨v6, w6, hr6, ho6, hg6, -, hat6⟩ := run_append_own_at (P := Try.prog) (w5.alloc (.cells #[.int .u32 oid, .int .u32 ver, .string nm, .int .u8 id, .slice a' cols.length c'] 49)) (w.heap.size + 1 + 1 + 1) 22 22 49 i0 _ 5 56 Try.underlying22 hi hz0 hz1 hz2 rfl (by decide) (.slice av qs.length cv) qs.length _ (owns_ext q2.out.own (HX5.out.alloc _)) ⟨w5.heap.size, 0, none⟩ 1 1 (RR.cells ⟨⟨oid, ver, nm, id, cols⟩, a', c'⟩) rfl (cells_new _ #[.int .u32 oid, .int .u32 ver, .string nm, .int .u8 id, .slice a' cols.length c'] _) (by intro u hu; simp [RR.cells] at hu; rcases hu with rfl | rfl | rfl | rfl | rfl <;> rfl) (by unfold maxLen; omega) (by omega) (by have := HX5.out.size; simp; omega)
              obtain ⟨a6, c6, rfl⟩ := owns_shape ho6
              have HO6 := Hid.mk' ho6
              have HG6 := Hid.mk' hg6
              have HAT6 := Hid.mk' hat6
              have hb6 : Blk w6 (w.heap.size + 1 + 1) #[.slice av qs.length cv] 22 := (hg6.block _ (by have := HX5.out.size; simp; omega) (fun e => by have := (hNB.out _ e.symm).1; omega)).trans ((HQ1.out.ext HX5.out).alloc _)
              have HB6 := Hid.mk' hb6
              have g6 := hb6.cell
              have g6f := hb6.frozen
              have g6z := hb6.lt
              clear ho6 hg6 hat6 hb6
              (refine stepIn_append rfl _ _ 22 rfl (.slice av qs.length cv) (.slice (some ⟨w5.heap.size, 0, none⟩) 1 1) (by simp [Act.eval]) (by simp [Act.eval]) hr6 ?_; refine hK _ _ ?_; clear hK K)
              refine wpAnyIn_ready (rs := [5]) (by kernel_rfl) (by simp) ?_
              refine AllReadyIn.cons rfl (fun K hK => ?_) ?_
              · skip
                (go_simp; refine hK _ _ ?_; clear hK K)
                refine wpAnyIn_done (by kernel_rfl) ?_ _
                gi_wp2
                exact HFIN.out w5 w6 a' c' a6 c6 HX5.out HQO.out HO6.out HG6.out HAT6.out HB6.out
              exact AllReadyIn.nil
            exact AllReadyIn.nil
          exact AllReadyIn.nil
        refine AllReadyIn.cons rfl (fun K hK => ?_) ?_
        · skip
          (go_simp; refine hK _ _ ?_; clear hK K)
          refine wpAnyIn_ready (rs := [0]) (by kernel_rfl) (by simp) ?_
          refine AllReadyIn.cons rfl (fun K hK => ?_) ?_
          · skip
            (go_simp; refine hK _ _ ?_; clear hK K)
            refine wpAnyIn_ready (rs := [4]) (by kernel_rfl) (by simp) ?_
            refine AllReadyIn.cons rfl (fun K hK => ?_) ?_
            · skip
              obtain ⟨v6, w6, hr6, ho6, hg6, -, hat6⟩ := run_append_own_at (P := Try.prog) (w5.alloc (.cells #[.int .u32 oid, .int .u32 ver, .string nm, .int .u8 id, .slice a' cols.length c'] 49)) (w.heap.size + 1 + 1 + 1) 22 22 49 i0 _ 5 56 Try.underlying22 hi hz0 hz1 hz2 rfl (by decide) (.slice av qs.length cv) qs.length _ (owns_ext q2.out.own (HX5.out.alloc _)) ⟨w5.heap.size, 0, none⟩ 1 1 (RR.cells ⟨⟨oid, ver, nm, id, cols⟩, a', c'⟩) rfl (cells_new _ #[.int .u32 oid, .int .u32 ver, .string nm, .int .u8 id, .slice a' cols.length c'] _) (by intro u hu; simp [RR.cells] at hu; rcases hu with rfl | rfl | rfl | rfl | rfl <;> rfl) (by unfold maxLen; omega) (by omega) (by have := HX5.out.size; simp; omega)
              obtain ⟨a6, c6, rfl⟩ := owns_shape ho6
              have HO6 := Hid.mk' ho6
              have HG6 := Hid.mk' hg6
              have HAT6 := Hid.mk' hat6
              have hb6 : Blk w6 (w.heap.size + 1 + 1) #[.slice av qs.length cv] 22 := (hg6.block _ (by have := HX5.out.size; simp; omega) (fun e => by have := (hNB.out _ e.symm).1; omega)).trans ((HQ1.out.ext HX5.out).alloc _)
              have HB6 := Hid.mk' hb6
              have g6 := hb6.cell
              have g6f := hb6.frozen
              have g6z := hb6.lt
              clear ho6 hg6 hat6 hb6
              (refine stepIn_append rfl _ _ 22 rfl (.slice av qs.length cv) (.slice (some ⟨w5.heap.size, 0, none⟩) 1 1) (by simp [Act.eval]) (by simp [Act.eval]) hr6 ?_; refine hK _ _ ?_; clear hK K)
              refine wpAnyIn_ready (rs := [5]) (by kernel_rfl) (by simp) ?_
              refine AllReadyIn.cons rfl (fun K hK => ?_) ?_
              · skip
                (go_simp; refine hK _ _ ?_; clear hK K)
                refine wpAnyIn_done (by kernel_rfl) ?_ _
                gi_wp2
                exact HFIN.out w5 w6 a' c' a6 c6 HX5.out HQO.out HO6.out HG6.out HAT6.out HB6.out
              exact AllReadyIn.nil
            exact AllReadyIn.nil
          exact AllReadyIn.nil
        exact AllReadyIn.nil
      exact AllReadyIn.nil
    exact AllReadyIn.nil
  case done =>
    rintro D ys W hD hys ⟨⟨av, cv, qs, q1, q2⟩, q3, q4, q5⟩ hK
    have g1 := q1.cell
    have g1z := q1.lt
    have g3 := q3.cell
    have g3f := q3.frozen
    have g3z := q3.lt
    have g4 := q4.cell
    have g4f := q4.frozen
    have g4z := q4.lt
    gi_wp2
    have hK' := ((KeepsOthers.setCell W ⟨w.heap.size, 0, none⟩ (.slice av qs.length cv)).trans (KeepsOthers.setCell _ ⟨w.heap.size + 1, 0, none⟩ (.bool true))).same D _ hK rfl
    have hEx := (q5.out.1.setCell (p := ⟨w.heap.size, 0, none⟩) (Nat.le_refl _) (.slice av qs.length cv)).setCell (p := ⟨w.heap.size + 1, 0, none⟩) (by show w.heap.size ≤ w.heap.size + 1; omega) (.bool true)
    have hq1 := (q3.set 0 (.slice av qs.length cv)).other ⟨w.heap.size + 1, 0, none⟩ (.bool true) (by show w.heap.size ≠ w.heap.size + 1; omega)
    have hq2 := (q4.other ⟨w.heap.size, 0, none⟩ (.slice av qs.length cv) (by show w.heap.size + 1 ≠ w.heap.size; omega)).set 0 (.bool true)
    have hbk := (q2.out.set (p := ⟨w.heap.size, 0, none⟩) (by show w.heap.size < _; omega) (.slice av qs.length cv)).set (p := ⟨w.heap.size + 1, 0, none⟩) (by show w.heap.size + 1 < _; omega) (.bool true)
    obtain ⟨V, hV⟩ : ∃ V, V = (W.setCell ⟨w.heap.size, 0, none⟩ (.slice av qs.length cv)).setCell ⟨w.heap.size + 1, 0, none⟩ (.bool true) := ⟨_, rfl⟩
    rw [← hV] at hq1 hq2 hK' hEx hbk ⊢
    have hg' := grownBy_putObj' V D (.deferred none)
    have hr' : ∀ r, some D = some r → ∃ ob : Obj, V.heap[r]? = some ob ∧ ob.isCells = false := fun r e => by cases e; exact ⟨_, hK', rfl⟩
    have hc0 := cell_kept (hq1.cell 0) hg' hr'
    have hc1 := cell_kept (hq2.cell 0) hg' hr'
    have hbk2 := hbk.kept hg' hr'
    refine ⟨by simp, .inl ⟨_, _, rfl, run_takeDeferred hK', ?_⟩⟩
    refine ⟨.tuple #[.slice av qs.length cv, .bool true], ?_, ⟨av, cv, qs, rfl, ⟨owns_base hbk2.own (by omega), by rw [hbk2.r, hys], fun q hq => (hbk2.sl q hq).mono (by omega), hbk2.ne⟩, hEx.trans (belowK_b (w := w) (Nat.le_refl _) V D _ _ (by omega) hK' rfl rfl)⟩⟩
    simp [results, Try.f16, go_sem, hc0, hc1]

theorem back9_any (N g : Nat) (c : Value) (ps : List RR) (w : World) (hc : Ca w N g c ps) :
    Calls Try.prog 16 #[.pointer (some ⟨g, 0, none⟩)] w fun e w' => ∃ a' c' qs, e = .returned (.tuple #[.slice a' qs.length c', .bool true]) ∧ BkR w' w.heap.size (ps.map RR.r) (.slice a' qs.length c') qs ∧ Ext w w' :=
  callsIn_wide.1 (back9_in Fence.wide 4 rfl trivial trivial trivial trivial trivial rfl (Nat.le_refl _) N g c ps w hc)

end Go.Proofs.Ythdjinicmnhgpaa

/-
The awake of the laws of catalogs.
-/
namespace Go.Proofs.Ythdjinicmnhgpaa
open Go.RowKit

def aw9 (v : Int) : Rl := ⟨3, v, ⟨#[116]⟩, 0, [⟨⟨#[97]⟩, 1, false⟩]⟩
theorem aw9_r1 : (aw9 1).right = 0 := by decide
theorem aw9_r2 : (aw9 2).right = 0 := by decide
theorem aw9_up : ofUp [aw9 2, aw9 1] 2 = [aw9 1, aw9 2] := by rfl
theorem aw9_ofE : ofE [aw9 2, aw9 1] = 0 := by decide
theorem aw9_ofPl : ofPl [aw9 2, aw9 1] = 2 := by decide

theorem aw9_wb (v : Int) : (aw9 v).wb := ⟨by show 1 ≤ 9223372036854775807; omega, by intro c hc; simp [aw9] at hc; subst hc; show 1 ≤ 9223372036854775807; omega, by show 1 ≤ 5864062014634; omega, Int.le_refl 0⟩
theorem two_of {qs : List RR} {a b : Rl} (h : qs.map RR.r = [a, b]) : ∃ x y, qs = [x, y] ∧ x.r = a ∧ y.r = b := by
  match qs, h with
  | [x, y], h =>
    simp only [List.map_cons, List.map_nil, List.cons.injEq, and_true] at h
    exact ⟨x, y, rfl, h.1, h.2⟩

set_option maxRecDepth 100000 in set_option maxHeartbeats 1600000 in
theorem awake9_any (w : World) : Calls Try.prog 18 #[] w fun e w' => e = .returned (.bool true) ∧ Ext w w' := by
  have HCI : Hid (∀ W, Ext (((w.alloc (.cells #[.string ⟨#[97]⟩, .int .u8 1, .bool false] 40)).alloc (.cells #[.int .u32 3, .int .u32 1, .string ⟨#[116]⟩, .int .u8 0, .slice (some ⟨w.heap.size, 0, none⟩) 1 1] 36)).alloc (.cells #[.int .u32 3, .int .u32 2, .string ⟨#[116]⟩, .int .u8 0, .slice (some ⟨w.heap.size, 0, none⟩) 1 1] 36)) W → ∀ v : Int, RR.in W ⟨aw9 v, some ⟨w.heap.size, 0, none⟩, 1⟩) := Hid.mk' (fun W h v => ((Sl.new w #[.string ⟨#[97]⟩, .int .u8 1, .bool false] 40 3 1 1 [[.string ⟨#[97]⟩, .int .u8 1, .bool false]] rfl (by intro xs hxs; simp at hxs; subst hxs; rfl) rfl).ext (((Ext.refl _).alloc _).alloc _)).ext h)
  have HOF := Hid.mk' (fun (W : World) (h : Ext (((w.alloc (.cells #[.string ⟨#[97]⟩, .int .u8 1, .bool false] 40)).alloc (.cells #[.int .u32 3, .int .u32 1, .string ⟨#[116]⟩, .int .u8 0, .slice (some ⟨w.heap.size, 0, none⟩) 1 1] 36)).alloc (.cells #[.int .u32 3, .int .u32 2, .string ⟨#[116]⟩, .int .u8 0, .slice (some ⟨w.heap.size, 0, none⟩) 1 1] 36)) W) => cof_any [⟨aw9 2, some ⟨w.heap.size, 0, none⟩, 1⟩, ⟨aw9 1, some ⟨w.heap.size, 0, none⟩, 1⟩] (some ⟨W.heap.size, 0, none⟩) 2 (W.alloc (.cells #[.int .u32 3, .int .u32 2, .string ⟨#[116]⟩, .int .u8 0, .slice (some ⟨w.heap.size, 0, none⟩) 1 1, .int .u32 3, .int .u32 1, .string ⟨#[116]⟩, .int .u8 0, .slice (some ⟨w.heap.size, 0, none⟩) 1 1] 36))
    ⟨Sl.new W #[.int .u32 3, .int .u32 2, .string ⟨#[116]⟩, .int .u8 0, .slice (some ⟨w.heap.size, 0, none⟩) 1 1, .int .u32 3, .int .u32 1, .string ⟨#[116]⟩, .int .u8 0, .slice (some ⟨w.heap.size, 0, none⟩) 1 1] 36 5 2 2 _ rfl (RR.len _) rfl, fun p hp => by simp at hp; rcases hp with rfl | rfl <;> exact HCI.out _ (h.alloc _) _⟩
    (fun p hp => by simp at hp; rcases hp with rfl | rfl <;> exact Nat.le_refl _) (fun p hp => by simp at hp; rcases hp with rfl | rfl <;> exact aw9_wb _) (by simp))
  have HOF := Hid.mk' (HOF.out (((w.alloc (.cells #[.string ⟨#[97]⟩, .int .u8 1, .bool false] 40)).alloc (.cells #[.int .u32 3, .int .u32 1, .string ⟨#[116]⟩, .int .u8 0, .slice (some ⟨w.heap.size, 0, none⟩) 1 1] 36)).alloc (.cells #[.int .u32 3, .int .u32 2, .string ⟨#[116]⟩, .int .u8 0, .slice (some ⟨w.heap.size, 0, none⟩) 1 1] 36)) (Ext.refl _))
  unfold COfPost at HOF
  simp only [World.size_alloc, List.map_cons, List.map_nil, List.length_cons, List.length_nil, Nat.zero_add, Nat.reduceAdd, aw9_ofE, aw9_ofPl, aw9_up] at HOF
  go_enter Try.func18, Try.ntmps18
  go_upto_region 7 with (go_at_call 14; refine HOF.out.mono ?_; rintro e w1 ⟨pv, rfl, h1, -, hb1⟩; obtain ⟨rfl, c, qs, hc, hq⟩ := h1 (by first | exact rfl | exact trivial); have HC := Hid.mk' hc; have HQ := Hid.mk' hq; have HB1 := Hid.mk' (show Ext w w1 from (((((Ext.refl w).alloc _).alloc _).alloc _).alloc _).trans hb1); clear h1 hc hq hb1)
  obtain ⟨x, y, rfl, hx, hy⟩ := two_of HQ.out
  have HBK := Hid.mk' (fun W (h : Ext w1 W) => back9_any _ _ c [x, y] W (HC.out.ext h))
  have HLS := Hid.mk' (fun W (h : Ext w1 W) => last_any _ _ c [x, y] 3 W (HC.out.ext h))
  have hl : lastUp 3 [x, y] [x, y].length = some y := by rw [show [x, y].length = 1 + 1 from rfl, lastUp_hit (by simp) (by show y.r.oid = 3; rw [hy]; rfl)]; rfl
  have hxy : [x, y].map RR.r = [aw9 1, aw9 2] := by rw [List.map_cons, List.map_cons, hx, hy]; rfl
  rw [hl] at HLS
  rw [hxy] at HBK
  simp only [Option.isSome_some, Option.getD_some, hy] at HLS
  unfold RR.agg at HLS
  clear hl hxy HQ hx hy
  go_upto_region 9 with (first
    | (go_at_call 16; refine (HBK.out _ (Ext.refl _)).mono ?_; rintro e w2 ⟨a', c', rs, rfl, hbk, hb2⟩; obtain ⟨u, v, rfl, hu, hv⟩ := two_of hbk.r; have HR := Hid.mk' hbk.rl; have HU := Hid.mk' hu; have HB2 := Hid.mk' hb2; clear hbk hb2 hu hv)
    | (go_at_call 28; refine (HLS.out _ HB2.out).mono ?_; rintro e w3 ⟨⟨r', a3, c3⟩, rfl, hqr, -, hb3⟩; simp only at hqr; subst hqr; have HB3 := Hid.mk' hb3; clear hb3; try simp only [aw9]))
  obtain ⟨b, q, rfl, hb, hxx⟩ := HR.out.row.at_ (i := 0) (by simp)
  obtain ⟨f0, f1, f2, f3, f4⟩ := RR.at_ (l := [u, v]) (k := 0) (by simp) hxx hb HB3.out
  have hbw : b < w3.heap.size := Nat.lt_of_lt_of_le hb HB3.out.size
  simp only [List.getElem_cons_zero, HU.out] at f1
  clear f0 f2 f3 f4 hxx
  unfold aw9 at f1
  simp only at f1
  go_wp2
  go_ret
  exact ⟨rfl, HB1.out.trans (HB2.out.trans (HB3.out.trans (by (repeat (with_reducible (first | exact Ext.refl _ | assumption | exact held_left (by assumption) | apply Ext.drewN | apply Ext.drew | apply Ext.alloc | (refine Ext.setCell ?_ (by first | (simp; done) | (simp; omega) | omega) _) | (refine Ext.trans ?_ (by assumption)) | (refine Ext.trans ?_ (held_left (by assumption)))))))))⟩

end Go.Proofs.Ythdjinicmnhgpaa

/-
Whether two lists of relations are the same: the reference's, the program's.
-/
namespace Go.Proofs.Ythdjinicmnhgpaa
open Go.RowKit

set_option maxRecDepth 100000 in set_option maxHeartbeats 2000000 in
theorem rsame8_any (p q : RR) (w : World) (hp : p.in w) (hq : q.in w) (hlen : p.r.cols.length ≤ 1000) (hlen2 : q.r.cols.length ≤ 9223372036854775807) :
    Calls Try.prog 22 #[p.agg, q.agg] w fun e w' => e = .returned (.bool (rlB p.r q.r)) ∧ Ext w w' := by
  obtain ⟨⟨o1, v1, n1, i1, c1⟩, a1, k1⟩ := p
  obtain ⟨⟨o2, v2, n2, i2, c2⟩, a2, k2⟩ := q
  unfold RR.agg
  unfold RR.in at hp hq
  simp only at hp hq hlen hlen2 ⊢
  have HL := Hid.mk' hp
  have HM := Hid.mk' hq
  have hc := rl_cases (⟨o1, v1, n1, i1, c1⟩ : Rl) (⟨o2, v2, n2, i2, c2⟩ : Rl)
  simp only at hc
  clear hp hq
  obtain ⟨R, hR⟩ : ∃ R, R = rlB (⟨o1, v1, n1, i1, c1⟩ : Rl) (⟨o2, v2, n2, i2, c2⟩ : Rl) := ⟨_, rfl⟩
  rw [← hR] at hc ⊢
  clear hR
  rcases hc with ⟨h1, h0⟩ | ⟨rfl, h1, h0⟩ | ⟨rfl, rfl, h1, h0⟩ | ⟨rfl, rfl, rfl, h1, h0⟩ | ⟨rfl, rfl, rfl, rfl, h0⟩
  · have e1 : (o1 == o2) = false := by simpa using h1
    have H0 := Hid.mk' h0
    clear h0 h1
    go_enter Try.func22, Try.ntmps22
    go_wp2
    go_ret
    exact ⟨ret_bool H0.out.symm, by (repeat (with_reducible (first | exact Ext.refl _ | assumption | exact held_left (by assumption) | apply Ext.drewN | apply Ext.drew | apply Ext.alloc | (refine Ext.setCell ?_ (by first | (simp; done) | (simp; omega) | omega) _) | (refine Ext.trans ?_ (by assumption)) | (refine Ext.trans ?_ (held_left (by assumption))))))⟩
  · have e1 : (v1 == v2) = false := by simpa using h1
    have H0 := Hid.mk' h0
    clear h0 h1
    go_enter Try.func22, Try.ntmps22
    go_wp2
    go_ret
    exact ⟨ret_bool H0.out.symm, by (repeat (with_reducible (first | exact Ext.refl _ | assumption | exact held_left (by assumption) | apply Ext.drewN | apply Ext.drew | apply Ext.alloc | (refine Ext.setCell ?_ (by first | (simp; done) | (simp; omega) | omega) _) | (refine Ext.trans ?_ (by assumption)) | (refine Ext.trans ?_ (held_left (by assumption))))))⟩
  · have e1 : (n1.toList == n2.toList) = false := by rw [str_beq2]; exact decide_eq_false h1
    have e2 : (n1.toList != n2.toList) = true := by unfold bne; rw [e1]; rfl
    have H0 := Hid.mk' h0
    clear h0 h1
    go_enter Try.func22, Try.ntmps22
    go_wp2
    go_ret
    exact ⟨ret_bool H0.out.symm, by (repeat (with_reducible (first | exact Ext.refl _ | assumption | exact held_left (by assumption) | apply Ext.drewN | apply Ext.drew | apply Ext.alloc | (refine Ext.setCell ?_ (by first | (simp; done) | (simp; omega) | omega) _) | (refine Ext.trans ?_ (by assumption)) | (refine Ext.trans ?_ (held_left (by assumption))))))⟩
  · have e1 : (i1 != i2) = true := by simpa using h1
    have H0 := Hid.mk' h0
    clear h0 h1
    go_enter Try.func22, Try.ntmps22
    go_wp2
    go_ret
    exact ⟨ret_bool H0.out.symm, by (repeat (with_reducible (first | exact Ext.refl _ | assumption | exact held_left (by assumption) | apply Ext.drewN | apply Ext.drew | apply Ext.alloc | (refine Ext.setCell ?_ (by first | (simp; done) | (simp; omega) | omega) _) | (refine Ext.trans ?_ (by assumption)) | (refine Ext.trans ?_ (held_left (by assumption))))))⟩
  by_cases hn : c1.length = c2.length
  case neg =>
    have hn' : (((c1.length : Nat) : Int) != ((c2.length : Nat) : Int)) = true := by simp; omega
    have H0 := Hid.mk' (h0.trans (colsB_false.2 (fun h => hn (by rw [h]))))
    clear h0 hn
    go_enter Try.func22, Try.ntmps22
    go_wp2
    go_ret
    exact ⟨ret_bool H0.out.symm, by (repeat (with_reducible (first | exact Ext.refl _ | assumption | exact held_left (by assumption) | apply Ext.drewN | apply Ext.drew | apply Ext.alloc | (refine Ext.setCell ?_ (by first | (simp; done) | (simp; omega) | omega) _) | (refine Ext.trans ?_ (by assumption)) | (refine Ext.trans ?_ (held_left (by assumption))))))⟩
  have hn' : (((c1.length : Nat) : Int) != ((c2.length : Nat) : Int)) = false := by simp; omega
  have H0 := Hid.mk' h0
  have HN := Hid.mk' hn
  clear h0 hn
  go_enter Try.func22, Try.ntmps22
  go_wp2
  go_loopw [5] (fun i wr => ∃ k : Nat, k ≤ c1.length ∧ i = .int .i64 k ∧ Hid (∀ j (h1 : j < c1.length) (h2 : j < c2.length), j < k → c1[j] = c2[j]) ∧ Hid (Ext ((w.alloc (.cells #[.int .u32 o1, .int .u32 v1, .string n1, .int .u8 i1, .slice a1 c1.length k1] 49)).alloc (.cells #[.int .u32 o1, .int .u32 v1, .string n1, .int .u8 i1, .slice a2 c2.length k2] 49)) wr)) (fun i _ => c1.length - (intOf i).toNat)
  case atStart => exact ⟨0, Nat.zero_le _, rfl, fun j _ _ h => by omega, Hid.mk' (Ext.refl _)⟩
  case round =>
    obtain ⟨k, hk, rfl, hrel, hE⟩ := hrel
    have HEW := Hid.mk' ((((Ext.refl w).alloc (.cells #[.int .u32 o1, .int .u32 v1, .string n1, .int .u8 i1, .slice a1 c1.length k1] 49)).alloc (.cells #[.int .u32 o1, .int .u32 v1, .string n1, .int .u8 i1, .slice a2 c2.length k2] 49)).trans hE.out)
    have HB0 := Hid.mk' (((Blk.new w #[.int .u32 o1, .int .u32 v1, .string n1, .int .u8 i1, .slice a1 c1.length k1] 49).alloc (.cells #[.int .u32 o1, .int .u32 v1, .string n1, .int .u8 i1, .slice a2 c2.length k2] 49)).ext hE.out)
    have HB1 := Hid.mk' ((Blk.new' (w := w.alloc (.cells #[.int .u32 o1, .int .u32 v1, .string n1, .int .u8 i1, .slice a1 c1.length k1] 49)) (b := w.heap.size + 1) #[.int .u32 o1, .int .u32 v1, .string n1, .int .u8 i1, .slice a2 c2.length k2] 49 (by simp)).ext hE.out)
    have g0 := HB0.out.cell
    have z0 := HB0.out.lt
    have g1 := HB1.out.cell
    have z1 := HB1.out.lt
    by_cases hlt : k < c1.length
    · have hlt2 : k < c2.length := by have := HN.out; omega
      obtain ⟨b1, q1, rfl, hb1, hx1⟩ := HL.out.at_ (i := k) (by simpa using hlt)
      obtain ⟨f0, f1, f2⟩ := Col.at_ hlt hx1 hb1 HEW.out
      obtain ⟨b2, q2, rfl, hb2, hx2⟩ := HM.out.at_ (i := k) (by simpa using hlt2)
      obtain ⟨p0, p1, p2⟩ := Col.at_ hlt2 hx2 hb2 HEW.out
      have hbw : b1 < wr.heap.size := Nat.lt_of_lt_of_le hb1 HEW.out.size
      have hbw2 : b2 < wr.heap.size := Nat.lt_of_lt_of_le hb2 HEW.out.size
      have hNq := fun w => neq_rcol c1[k] c2[k] w
      cases hA : colB c1[k] c2[k] with
      | true =>
        rw [hA] at hNq
        have HA := Hid.mk' (colB_true.1 hA)
        clear hA hx1 hx2
        go_wp2
        go_region_held3 (fun w' => Ext (wr) w' ∧ (∀ b o, b < (wr).heap.size → w'.cell? ⟨b, o, none⟩ = (wr).cell? ⟨b, o, none⟩) ∧ (∀ b o, b < (wr).heap.size → w'.frozen? ⟨b, o, none⟩ = (wr).frozen? ⟨b, o, none⟩)) ((exact held_of (by (repeat (with_reducible (first | exact Ext.refl _ | assumption | exact held_left (by assumption) | apply Ext.drewN | apply Ext.drew | apply Ext.alloc | (refine Ext.setCell ?_ (by first | (simp; done) | (simp; omega) | omega) _) | (refine Ext.trans ?_ (by assumption)) | (refine Ext.trans ?_ (held_left (by assumption))))))))) (fail)
        go_wp2
        go_roundw
        case rel => exact ⟨k + 1, by omega, by go_num, fun j h1 h2 hjk => by
          by_cases e : j = k
          · subst e; exact HA.out
          · exact hrel.out j h1 h2 (by omega), Hid.mk' (hE.out.trans (by (repeat (with_reducible (first | exact Ext.refl _ | assumption | exact held_left (by assumption) | apply Ext.drewN | apply Ext.drew | apply Ext.alloc | (refine Ext.setCell ?_ (by first | (simp; done) | (simp; omega) | omega) _) | (refine Ext.trans ?_ (by assumption)) | (refine Ext.trans ?_ (held_left (by assumption))))))))⟩
        case measure => simp [intOf]; omega
      | false =>
        rw [hA] at hNq
        have HR := Hid.mk' (H0.out.trans (show colsB c1 c2 = false from colsB_false.2 (fun h => by subst h; rw [colB_true.2 rfl] at hA; cases hA)))
        clear hA hx1 hx2
        go_wp2
        go_region_held3 (fun w' => Ext (wr) w' ∧ (∀ b o, b < (wr).heap.size → w'.cell? ⟨b, o, none⟩ = (wr).cell? ⟨b, o, none⟩) ∧ (∀ b o, b < (wr).heap.size → w'.frozen? ⟨b, o, none⟩ = (wr).frozen? ⟨b, o, none⟩)) ((exact held_of (by (repeat (with_reducible (first | exact Ext.refl _ | assumption | exact held_left (by assumption) | apply Ext.drewN | apply Ext.drew | apply Ext.alloc | (refine Ext.setCell ?_ (by first | (simp; done) | (simp; omega) | omega) _) | (refine Ext.trans ?_ (by assumption)) | (refine Ext.trans ?_ (held_left (by assumption))))))))) (fail)
        go_wp2
        go_ret
        exact ⟨ret_bool HR.out.symm, HEW.out.trans (by (repeat (with_reducible (first | exact Ext.refl _ | assumption | exact held_left (by assumption) | apply Ext.drewN | apply Ext.drew | apply Ext.alloc | (refine Ext.setCell ?_ (by first | (simp; done) | (simp; omega) | omega) _) | (refine Ext.trans ?_ (by assumption)) | (refine Ext.trans ?_ (held_left (by assumption)))))))⟩
    · have hkk : k = c1.length := by omega
      have HR := Hid.mk' (H0.out.trans (show colsB c1 c2 = true from colsB_true.2 (List.ext_getElem HN.out (fun i h1 h2 => hrel.out i h1 h2 (by omega)))))
      subst hkk
      go_wp2
      go_ret
      exact ⟨ret_bool HR.out.symm, HEW.out⟩

theorem rls_ext {a b : List RR} (h0 : a.length = b.length) (h : ∀ i (h1 : i < a.length) (h2 : i < b.length), a[i].r = b[i].r) : a.map RR.r = b.map RR.r :=
  List.ext_getElem (by simpa using h0) (fun i h1 h2 => by rw [List.getElem_map, List.getElem_map]; exact h i (by simpa using h1) (by simpa using h2))

set_option maxRecDepth 100000 in set_option maxHeartbeats 2000000 in
theorem rsame9_any (ps qs : List RR) (a b : Option Addr) (ca cb : Nat) (w : World) (hl : RL w (.slice a ps.length ca) ps) (hm : RL w (.slice b qs.length cb) qs) (hlen : ps.length ≤ 1000) (h16 : ∀ p ∈ ps, p.r.cols.length ≤ 1000) (h17 : ∀ p ∈ qs, p.r.cols.length ≤ 9223372036854775807) :
    Calls Try.prog 17 #[.slice a ps.length ca, .slice b qs.length cb] w fun e w' => e = .returned (.bool (rlsB (ps.map RR.r) (qs.map RR.r))) ∧ Ext w w' := by
  have HL := Hid.mk' hl
  have HM := Hid.mk' hm
  have H16 := Hid.mk' h16
  have H17 := Hid.mk' h17
  clear hl hm h16 h17
  by_cases hn : ps.length = qs.length
  case neg =>
    have hn' : (((ps.length : Nat) : Int) != ((qs.length : Nat) : Int)) = true := by simp; omega
    have HR := Hid.mk' (show rlsB (ps.map RR.r) (qs.map RR.r) = false from rlsB_false.2 (fun h => hn (by have := congrArg List.length h; simpa using this)))
    clear hn
    go_enter Try.func17, Try.ntmps17
    go_wp2
    go_ret
    exact ⟨ret_bool HR.out.symm, by (repeat (with_reducible (first | exact Ext.refl _ | assumption | exact held_left (by assumption) | apply Ext.drewN | apply Ext.drew | apply Ext.alloc | (refine Ext.setCell ?_ (by first | (simp; done) | (simp; omega) | omega) _) | (refine Ext.trans ?_ (by assumption)) | (refine Ext.trans ?_ (held_left (by assumption))))))⟩
  have hn' : (((ps.length : Nat) : Int) != ((qs.length : Nat) : Int)) = false := by simp; omega
  have HN := Hid.mk' hn
  clear hn
  go_enter Try.func17, Try.ntmps17
  go_wp2
  go_loopw [5] (fun i wr => ∃ k : Nat, k ≤ ps.length ∧ i = .int .i64 k ∧ Hid (∀ j (h1 : j < ps.length) (h2 : j < qs.length), j < k → ps[j].r = qs[j].r) ∧ Hid (Ext w wr)) (fun i _ => ps.length - (intOf i).toNat)
  case atStart => exact ⟨0, Nat.zero_le _, rfl, fun j _ _ h => by omega, Hid.mk' (Ext.refl _)⟩
  case round =>
    obtain ⟨k, hk, rfl, hrel, hE⟩ := hrel
    by_cases hlt : k < ps.length
    · have hlt2 : k < qs.length := by have := HN.out; omega
      obtain ⟨b1, q1, rfl, hb1, hx1⟩ := HL.out.row.at_ (i := k) (by simpa using hlt)
      obtain ⟨f0, f1, f2, f3, f4⟩ := RR.at_ hlt hx1 hb1 hE.out
      obtain ⟨b2, q2, rfl, hb2, hx2⟩ := HM.out.row.at_ (i := k) (by simpa using hlt2)
      obtain ⟨p0, p1, p2, p3, p4⟩ := RR.at_ hlt2 hx2 hb2 hE.out
      have hbw : b1 < wr.heap.size := Nat.lt_of_lt_of_le hb1 hE.out.size
      have hbw2 : b2 < wr.heap.size := Nat.lt_of_lt_of_le hb2 hE.out.size
      have HS := Hid.mk' (fun W (h : Ext w W) => rsame8_any ps[k] qs[k] W ((HL.out.sl _ (List.getElem_mem hlt)).ext h) ((HM.out.sl _ (List.getElem_mem hlt2)).ext h) (H16.out _ (List.getElem_mem hlt)) (H17.out _ (List.getElem_mem hlt2)))
      unfold RR.agg at HS
      cases hA : rlB ps[k].r qs[k].r with
      | true =>
        rw [hA] at HS
        have HA := Hid.mk' (rlB_true.1 hA)
        clear hA hx1 hx2
        go_wp2
        go_region_held3 (fun w' => Ext (wr) w' ∧ (∀ b o, b < (wr).heap.size → w'.cell? ⟨b, o, none⟩ = (wr).cell? ⟨b, o, none⟩) ∧ (∀ b o, b < (wr).heap.size → w'.frozen? ⟨b, o, none⟩ = (wr).frozen? ⟨b, o, none⟩)) ((exact held_of (by (repeat (with_reducible (first | exact Ext.refl _ | assumption | exact held_left (by assumption) | apply Ext.drewN | apply Ext.drew | apply Ext.alloc | (refine Ext.setCell ?_ (by first | (simp; done) | (simp; omega) | omega) _) | (refine Ext.trans ?_ (by assumption)) | (refine Ext.trans ?_ (held_left (by assumption))))))))) (first | (go_at_call 22; refine (HS.out _ (hE.out.trans (by (repeat (with_reducible (first | exact Ext.refl _ | assumption | exact held_left (by assumption) | apply Ext.drewN | apply Ext.drew | apply Ext.alloc | (refine Ext.setCell ?_ (by first | (simp; done) | (simp; omega) | omega) _) | (refine Ext.trans ?_ (by assumption)) | (refine Ext.trans ?_ (held_left (by assumption))))))))).mono ?_; rintro e w2 ⟨rfl, hb2⟩))
        go_wp2
        go_roundw
        case rel => exact ⟨k + 1, by omega, by go_num, fun j h1 h2 hjk => by
          by_cases e : j = k
          · subst e; exact HA.out
          · exact hrel.out j h1 h2 (by omega), Hid.mk' (hE.out.trans (by (repeat (with_reducible (first | exact Ext.refl _ | assumption | exact held_left (by assumption) | apply Ext.drewN | apply Ext.drew | apply Ext.alloc | (refine Ext.setCell ?_ (by first | (simp; done) | (simp; omega) | omega) _) | (refine Ext.trans ?_ (by assumption)) | (refine Ext.trans ?_ (held_left (by assumption))))))))⟩
        case measure => simp [intOf]; omega
      | false =>
        rw [hA] at HS
        have HR := Hid.mk' (show rlsB (ps.map RR.r) (qs.map RR.r) = false from rlsB_false.2 (fun h => rlB_false.1 hA (by
          have := congrArg (fun l => l[k]?) h
          simp only [List.getElem?_map, List.getElem?_eq_getElem hlt, List.getElem?_eq_getElem hlt2, Option.map_some] at this
          exact Option.some.inj this)))
        clear hA hx1 hx2
        go_wp2
        go_region_held3 (fun w' => Ext (wr) w' ∧ (∀ b o, b < (wr).heap.size → w'.cell? ⟨b, o, none⟩ = (wr).cell? ⟨b, o, none⟩) ∧ (∀ b o, b < (wr).heap.size → w'.frozen? ⟨b, o, none⟩ = (wr).frozen? ⟨b, o, none⟩)) ((exact held_of (by (repeat (with_reducible (first | exact Ext.refl _ | assumption | exact held_left (by assumption) | apply Ext.drewN | apply Ext.drew | apply Ext.alloc | (refine Ext.setCell ?_ (by first | (simp; done) | (simp; omega) | omega) _) | (refine Ext.trans ?_ (by assumption)) | (refine Ext.trans ?_ (held_left (by assumption))))))))) (first | (go_at_call 22; refine (HS.out _ (hE.out.trans (by (repeat (with_reducible (first | exact Ext.refl _ | assumption | exact held_left (by assumption) | apply Ext.drewN | apply Ext.drew | apply Ext.alloc | (refine Ext.setCell ?_ (by first | (simp; done) | (simp; omega) | omega) _) | (refine Ext.trans ?_ (by assumption)) | (refine Ext.trans ?_ (held_left (by assumption))))))))).mono ?_; rintro e w2 ⟨rfl, hb2⟩))
        go_wp2
        go_ret
        exact ⟨ret_bool HR.out.symm, hE.out.trans (by (repeat (with_reducible (first | exact Ext.refl _ | assumption | exact held_left (by assumption) | apply Ext.drewN | apply Ext.drew | apply Ext.alloc | (refine Ext.setCell ?_ (by first | (simp; done) | (simp; omega) | omega) _) | (refine Ext.trans ?_ (by assumption)) | (refine Ext.trans ?_ (held_left (by assumption)))))))⟩
    · have hkk : k = ps.length := by omega
      have HR := Hid.mk' (show rlsB (ps.map RR.r) (qs.map RR.r) = true from rlsB_true.2 (rls_ext HN.out (fun i h1 h2 => hrel.out i h1 h2 (by omega))))
      subst hkk
      go_wp2
      go_ret
      exact ⟨ret_bool HR.out.symm, hE.out⟩

set_option maxRecDepth 100000 in set_option maxHeartbeats 2000000 in
theorem eqrels_any (ps qs : List RR) (a b : Option Addr) (ca cb : Nat) (w : World) (hl : RL w (.slice a ps.length ca) ps) (hm : RL w (.slice b qs.length cb) qs) (hlen : ps.length ≤ 1000) (h16 : ∀ p ∈ ps, p.r.cols.length ≤ 1000) :
    Calls Try.prog 58 #[.slice a ps.length ca, .slice b qs.length cb, .func (.func 59) #[] #[]] w fun e w' => e = .returned (.bool (rlsB (ps.map RR.r) (qs.map RR.r))) ∧ Ext w w' := by
  have HL := Hid.mk' hl
  have HM := Hid.mk' hm
  have H16 := Hid.mk' h16
  clear hl hm h16
  by_cases hn : ps.length = qs.length
  case neg =>
    have hn' : (((ps.length : Nat) : Int) != ((qs.length : Nat) : Int)) = true := by simp; omega
    have HR := Hid.mk' (show rlsB (ps.map RR.r) (qs.map RR.r) = false from rlsB_false.2 (fun h => hn (by have := congrArg List.length h; simpa using this)))
    clear hn
    go_enter Try.func58, Try.ntmps58
    go_wp2
    go_ret
    exact ⟨ret_bool HR.out.symm, by (repeat (with_reducible (first | exact Ext.refl _ | assumption | exact held_left (by assumption) | apply Ext.drewN | apply Ext.drew | apply Ext.alloc | (refine Ext.setCell ?_ (by first | (simp; done) | (simp; omega) | omega) _) | (refine Ext.trans ?_ (by assumption)) | (refine Ext.trans ?_ (held_left (by assumption))))))⟩
  have hn' : (((ps.length : Nat) : Int) != ((qs.length : Nat) : Int)) = false := by simp; omega
  have HN := Hid.mk' hn
  clear hn
  go_enter Try.func58, Try.ntmps58
  go_wp2
  go_loopw [17] (fun i wr => ∃ k : Nat, k ≤ ps.length ∧ i = .int .i64 k ∧ Hid (∀ j (h1 : j < ps.length) (h2 : j < qs.length), j < k → ps[j].r = qs[j].r) ∧ Hid (Ext w wr)) (fun i _ => ps.length - (intOf i).toNat)
  case atStart => exact ⟨0, Nat.zero_le _, rfl, fun j _ _ h => by omega, Hid.mk' (Ext.refl _)⟩
  case round =>
    obtain ⟨k, hk, rfl, hrel, hE⟩ := hrel
    by_cases hlt : k < ps.length
    · have hlt2 : k < qs.length := by have := HN.out; omega
      obtain ⟨b1, q1, rfl, hb1, hx1⟩ := HL.out.row.at_ (i := k) (by simpa using hlt)
      obtain ⟨f0, f1, f2, f3, f4⟩ := RR.at_ hlt hx1 hb1 hE.out
      obtain ⟨b2, q2, rfl, hb2, hx2⟩ := HM.out.row.at_ (i := k) (by simpa using hlt2)
      obtain ⟨p0, p1, p2, p3, p4⟩ := RR.at_ hlt2 hx2 hb2 hE.out
      have hbw : b1 < wr.heap.size := Nat.lt_of_lt_of_le hb1 hE.out.size
      have hbw2 : b2 < wr.heap.size := Nat.lt_of_lt_of_le hb2 hE.out.size
      have HS := Hid.mk' (fun W (h : Ext w W) => same8_any ps[k] qs[k] W ((HL.out.sl _ (List.getElem_mem hlt)).ext h) ((HM.out.sl _ (List.getElem_mem hlt2)).ext h) (H16.out _ (List.getElem_mem hlt)))
      unfold RR.agg at HS
      cases hA : rlB ps[k].r qs[k].r with
      | true =>
        rw [hA] at HS
        have HA := Hid.mk' (rlB_true.1 hA)
        clear hA hx1 hx2
        go_wp2_with (go_at_call 59; refine (HS.out _ (hE.out.trans (by (repeat (with_reducible (first | exact Ext.refl _ | assumption | exact held_left (by assumption) | apply Ext.drewN | apply Ext.drew | apply Ext.alloc | (refine Ext.setCell ?_ (by first | (simp; done) | (simp; omega) | omega) _) | (refine Ext.trans ?_ (by assumption)) | (refine Ext.trans ?_ (held_left (by assumption))))))))).mono ?_; rintro e w2 ⟨rfl, hb2⟩; have HE2 := Hid.mk' (hE.out.trans (show Ext wr w2 by (repeat (with_reducible (first | exact Ext.refl _ | assumption | exact held_left (by assumption) | apply Ext.drewN | apply Ext.drew | apply Ext.alloc | (refine Ext.setCell ?_ (by first | (simp; done) | (simp; omega) | omega) _) | (refine Ext.trans ?_ (by assumption)) | (refine Ext.trans ?_ (held_left (by assumption)))))))))
        go_roundw
        case rel => exact ⟨k + 1, by omega, by go_num, fun j h1 h2 hjk => by
          by_cases e : j = k
          · subst e; exact HA.out
          · exact hrel.out j h1 h2 (by omega), HE2⟩
        case measure => simp [intOf]; omega
      | false =>
        rw [hA] at HS
        have HR := Hid.mk' (show rlsB (ps.map RR.r) (qs.map RR.r) = false from rlsB_false.2 (fun h => rlB_false.1 hA (by
          have := congrArg (fun l => l[k]?) h
          simp only [List.getElem?_map, List.getElem?_eq_getElem hlt, List.getElem?_eq_getElem hlt2, Option.map_some] at this
          exact Option.some.inj this)))
        clear hA hx1 hx2
        go_wp2_with (go_at_call 59; refine (HS.out _ (hE.out.trans (by (repeat (with_reducible (first | exact Ext.refl _ | assumption | exact held_left (by assumption) | apply Ext.drewN | apply Ext.drew | apply Ext.alloc | (refine Ext.setCell ?_ (by first | (simp; done) | (simp; omega) | omega) _) | (refine Ext.trans ?_ (by assumption)) | (refine Ext.trans ?_ (held_left (by assumption))))))))).mono ?_; rintro e w2 ⟨rfl, hb2⟩; have HE2 := Hid.mk' (hE.out.trans (show Ext wr w2 by (repeat (with_reducible (first | exact Ext.refl _ | assumption | exact held_left (by assumption) | apply Ext.drewN | apply Ext.drew | apply Ext.alloc | (refine Ext.setCell ?_ (by first | (simp; done) | (simp; omega) | omega) _) | (refine Ext.trans ?_ (by assumption)) | (refine Ext.trans ?_ (held_left (by assumption)))))))))
        go_ret
        exact ⟨ret_bool HR.out.symm, HE2.out⟩
    · have hkk : k = ps.length := by omega
      have HR := Hid.mk' (show rlsB (ps.map RR.r) (qs.map RR.r) = true from rlsB_true.2 (rls_ext HN.out (fun i h1 h2 => hrel.out i h1 h2 (by omega))))
      subst hkk
      go_wp2
      go_ret
      exact ⟨ret_bool HR.out.symm, hE.out⟩

set_option maxRecDepth 100000 in set_option maxHeartbeats 2000000 in
theorem csame_any (N M g k : Nat) (c d : Value) (ps qs : List RR) (w : World) (hc : Ca w N g c ps) (hd : Ca w M k d qs) :
    Calls Try.prog 32 #[.pointer (some ⟨g, 0, none⟩), .pointer (some ⟨k, 0, none⟩)] w fun e w' => e = .returned (.bool (rlsB (ps.map RR.r) (qs.map RR.r))) ∧ Ext w w' := by
  obtain ⟨a, ca, rfl⟩ := hc.shape
  obtain ⟨b, cb, rfl⟩ := hd.shape
  have HE := Hid.mk' (fun W (h : Ext w W) => eqrels_any ps qs a b ca cb W (hc.rl.ext h) (hd.rl.ext h) (by have := hc.n64; omega) (fun p hp => by have := hc.n16 hp; omega))
  have g0 := hc.ptr.cell
  have z0 := hc.ptr.lt
  have g1 := hd.ptr.cell
  have z1 := hd.ptr.lt
  clear hc hd
  go_enter Try.func32, Try.ntmps32
  go_wp2
  go_region_held3 (fun w' => Ext (w) w' ∧ (∀ b o, b < (w).heap.size → w'.cell? ⟨b, o, none⟩ = (w).cell? ⟨b, o, none⟩) ∧ (∀ b o, b < (w).heap.size → w'.frozen? ⟨b, o, none⟩ = (w).frozen? ⟨b, o, none⟩)) ((exact held_of (by (repeat (with_reducible (first | exact Ext.refl _ | assumption | exact held_left (by assumption) | apply Ext.drewN | apply Ext.drew | apply Ext.alloc | (refine Ext.setCell ?_ (by first | (simp; done) | (simp; omega) | omega) _) | (refine Ext.trans ?_ (by assumption)) | (refine Ext.trans ?_ (held_left (by assumption))))))))) (first | (go_at_call 58; refine (HE.out _ (by (repeat (with_reducible (first | exact Ext.refl _ | assumption | exact held_left (by assumption) | apply Ext.drewN | apply Ext.drew | apply Ext.alloc | (refine Ext.setCell ?_ (by first | (simp; done) | (simp; omega) | omega) _) | (refine Ext.trans ?_ (by assumption)) | (refine Ext.trans ?_ (held_left (by assumption)))))))).mono ?_; rintro e w2 ⟨rfl, hb2⟩))
  go_wp2
  go_ret
  exact ⟨rfl, by (repeat (with_reducible (first | exact Ext.refl _ | assumption | exact held_left (by assumption) | apply Ext.drewN | apply Ext.drew | apply Ext.alloc | (refine Ext.setCell ?_ (by first | (simp; done) | (simp; omega) | omega) _) | (refine Ext.trans ?_ (by assumption)) | (refine Ext.trans ?_ (held_left (by assumption))))))⟩

end Go.Proofs.Ythdjinicmnhgpaa

/-
The walk of CatalogOrder.
-/
namespace Go.Proofs.Ythdjinicmnhgpaa
open Go.RowKit

theorem mem_r {ps qs : List RR} (h : qs.map RR.r = ps.map RR.r) {q : RR} (hq : q ∈ qs) : ∃ p ∈ ps, p.r = q.r := by
  have : q.r ∈ ps.map RR.r := by rw [← h]; exact List.mem_map_of_mem hq
  obtain ⟨p, hp, e⟩ := List.mem_map.1 this
  exact ⟨p, hp, e⟩
theorem up_n16 {l : List Rl} {k : Nat} {qs : List RR} (h : qs.map RR.r = ofUp l k) : qs.length ≤ 64 ∧ ∀ q ∈ qs, q.r.cols.length ≤ 16 := by
  refine ⟨?_, fun q hq => Rl.cols_le ((ofUp_ok l k).right _ (by rw [← h]; exact List.mem_map_of_mem hq))⟩
  have := (ofUp_ok l k).n64
  rw [← h, List.length_map] at this
  exact this
/-- The laws' Own and Of, one behind the other. -/
theorem own_of {ps : List RR} {W W1 : World} {v : Value} {qs : List RR} (ho : OwnR W1 W.heap.size ps ps.length v qs) (hb : ∀ p ∈ ps, p.r.wb) : RL W1 v qs ∧ (∀ q ∈ qs, q.r.cols.length ≤ q.c) ∧ (∀ q ∈ qs, q.r.wb) ∧ qs.map RR.r = ps.map RR.r ∧ qs.length = ps.length :=
  ⟨ho.rl, ho.cap, ho.wb hb, ho.rs, ho.len⟩

set_option maxRecDepth 100000 in set_option maxHeartbeats 4000000 in
theorem catorder_any (ps : List RR) (a : Option Addr) (cap : Nat) (w : World) (hl : RL w (.slice a ps.length cap) ps) (hb : ∀ p ∈ ps, p.r.wb) (hlen : ps.length ≤ 9223372036854775807) :
    Calls Try.prog 7 #[.slice a ps.length cap] w fun e w' => e = .returned (.bool true) ∧ Ext w w' := by
  have HRO := Hid.mk' (fun W (h : Ext w W) => rof_any ps a cap W (hl.ext h) hb hlen)
  unfold ROfPost at HRO
  have HL := Hid.mk' hl
  have HB := Hid.mk' hb
  clear hl hb
  obtain ⟨E, hE⟩ : ∃ E, E = ofE (ps.map RR.r) := ⟨_, rfl⟩
  rw [← hE] at HRO
  by_cases h60 : 60 < ps.length
  · clear hE
    go_enter Try.func7, Try.ntmps7
    go_wp2_with (go_at_call 12; refine (HRO.out _ (Ext.refl _)).mono ?_; rintro e w1 ⟨a', c', n, rfl, -, -, hb1⟩)
    go_ret
    exact ⟨rfl, by (repeat (with_reducible (first | exact Ext.refl _ | assumption | exact held_left (by assumption) | apply Ext.drewN | apply Ext.drew | apply Ext.alloc | (refine Ext.setCell ?_ (by first | (simp; done) | (simp; omega) | omega) _) | (refine Ext.trans ?_ (by assumption)) | (refine Ext.trans ?_ (held_left (by assumption))))))⟩
  by_cases h0 : E = 0
  case neg =>
    have h0' : (E != 0) = true := by simpa using h0
    clear hE h0
    go_enter Try.func7, Try.ntmps7
    go_wp2_with (go_at_call 12; refine (HRO.out _ (Ext.refl _)).mono ?_; rintro e w1 ⟨a', c', n, rfl, -, -, hb1⟩)
    go_ret
    exact ⟨rfl, by (repeat (with_reducible (first | exact Ext.refl _ | assumption | exact held_left (by assumption) | apply Ext.drewN | apply Ext.drew | apply Ext.alloc | (refine Ext.setCell ?_ (by first | (simp; done) | (simp; omega) | omega) _) | (refine Ext.trans ?_ (by assumption)) | (refine Ext.trans ?_ (held_left (by assumption))))))⟩
  subst h0
  have hn60 : ps.length ≤ 60 := by omega
  have HZ := Hid.mk' hE.symm
  have hat : ∀ j, j < (ps.map RR.r).length → ofAt (ps.map RR.r) j = 0 := firstE_all hE.symm
  have hfine := ofAt_fine hat
  have HSAME : Hid (ofUp (ps.reverse.map RR.r) (ps.reverse.map RR.r).length = ofUp (ps.map RR.r) (ps.map RR.r).length) := Hid.mk' (by
    have e : ps.reverse.map RR.r = (ps.map RR.r).reverse := by rw [List.map_reverse]
    rw [e]
    exact Fine.same hfine.rev hfine (fun x => List.mem_reverse))
  have HREV : Hid (ofE (ps.reverse.map RR.r) = 0) := Hid.mk' (by
    have e : ps.reverse.map RR.r = (ps.map RR.r).reverse := by rw [List.map_reverse]
    rw [e]
    exact firstE_zero (hfine.rev.at_ _ (Nat.le_refl _)))
  obtain ⟨i0, hi, hz0, hz1, hz2⟩ := info_parts Try.infoRRel
  have HOW := Hid.mk' (fun W (h : Ext w W) => own9_any ps a cap W (HL.out.ext h) (by omega) HB.out)
  clear hE hat hfine h60
  go_enter Try.func7, Try.ntmps7
  go_wp2_with (go_at_call 12; refine (HRO.out _ (Ext.refl _)).mono ?_; rintro e w1 ⟨aw, cw, n, rfl, h1, -, hb1⟩; obtain ⟨rfl, hrl⟩ := h1 rfl; have HW := Hid.mk' hrl; have HE1 := Hid.mk' hb1; clear h1 hrl hb1)
  go_loopw [6, 7] (fun v i wr => ∃ (k : Nat), k ≤ ps.length ∧ i = .int .i64 ((ps.length : Int) - 1 - k) ∧ Hid (wr.ownsRow w1.heap.size 49 5 v k ((ps.reverse.take k).map RR.cells).flatten) ∧ Hid (Ext w1 wr)) (fun _ i _ => (intOf i + 1).toNat)
  case atStart => exact ⟨0, Nat.zero_le _, by go_num, Hid.mk' (World.ownsRow_nil _ _ _ _), Hid.mk' (Ext.refl _)⟩
  case round =>
    obtain ⟨k, hk, rfl, hown, hE⟩ := hrel
    have HEW := Hid.mk' (HE1.out.trans hE.out)
    by_cases hlt : k < ps.length
    · obtain ⟨m, hm⟩ : ∃ m : Nat, m = ps.length - 1 - k := ⟨_, rfl⟩
      have hmp : m < ps.length := by omega
      have e0 : (ps.length : Int) - 1 - (k : Int) = (m : Int) := by omega
      rw [e0]
      obtain ⟨b, o, rfl, hb, hx⟩ := HL.out.row.at_ (i := m) (by simpa using hmp)
      obtain ⟨f0, f1, f2, f3, f4⟩ := RR.at_ hmp hx hb HEW.out
      have hbw : b < wr.heap.size := Nat.lt_of_lt_of_le hb HEW.out.size
      have HT : Hid (ps.reverse.take (k + 1) = ps.reverse.take k ++ [ps[m]]) := Hid.mk' (by
        rw [List.take_succ_eq_append_getElem (by simpa using hlt), List.getElem_reverse]
        congr 3; exact hm.symm)
      obtain ⟨p, hp⟩ : ∃ p, p = ps[m] := ⟨_, rfl⟩
      rw [← hp] at f0 f1 f2 f3 f4 HT
      have HM := Hid.mk' hm
      have hz := hE.out.size
      clear hx hp hm
      go_wp2_with (at_builtin; refine wpList_append_own _ rfl _ _ 22 rfl w1.heap.size 49 i0 _ 5 56 Try.underlying22 hi hz0 hz1 hz2 rfl (by decide) _ _ _ rfl (owns_ext hown.out (by (repeat (with_reducible (first | exact Ext.refl _ | assumption | exact held_left (by assumption) | apply Ext.drewN | apply Ext.drew | apply Ext.alloc | (refine Ext.setCell ?_ (by first | (simp; done) | (simp; omega) | omega) _) | (refine Ext.trans ?_ (by assumption)) | (refine Ext.trans ?_ (held_left (by assumption)))))))) ⟨_, 0, none⟩ 1 1 p.cells rfl rfl (cells_new _ #[.int .u32 p.r.oid, .int .u32 p.r.ver, .string p.r.nm, .int .u8 p.r.id, .slice p.a p.r.cols.length p.c] _) (by intro u hu; simp [RR.cells] at hu; rcases hu with rfl | rfl | rfl | rfl | rfl <;> rfl) (by unfold maxLen; omega) (by omega) (by simp; omega) ?_)
      intro v' w4 hown' hgrow _
      have HX4 : Hid (Ext w1 w4) := Hid.mk' (Ext.grown (hE.out.alloc _) (owns_ext hown.out ((Ext.refl wr).alloc _)) hgrow)
      have HO4 := Hid.mk' hown'
      clear hown' hgrow
      go_wp2
      go_roundw
      case rel => exact ⟨k + 1, by omega, by (have := HM.out); first | go_num | (congr 1; omega), Hid.mk' (by rw [HT.out, List.map_append, List.flatten_append]; simpa using HO4.out), HX4⟩
      case measure => have := HM.out; simp [intOf]; try omega
    · obtain rfl : k = ps.length := by omega
      obtain ⟨ab, cb, rfl⟩ := owns_shape hown.out
      have hrt : ps.reverse.take ps.length = ps.reverse := List.take_of_length_le (by simp)
      rw [hrt] at hown
      have hrlB : RL wr (.slice ab ps.reverse.length cb) ps.reverse := ⟨by rw [List.length_reverse]; exact Sl.of_owns (base := w1.heap.size) (e := 49) (by rw [List.length_map, List.length_reverse]; exact hown.out) (RR.len _), fun p hp => (HL.out.sl p (List.mem_reverse.1 hp)).ext HEW.out⟩
      have HOB := Hid.mk' (fun W (h : Ext wr W) => own9_any ps.reverse ab cb W (hrlB.ext h) (by rw [List.length_reverse]; omega) (fun p hp => HB.out p (List.mem_reverse.1 hp)))
      rw [List.length_reverse] at HOB
      have HW2 := Hid.mk' (HW.out.ext hE.out)
      clear hrlB hrt hown
      go_upto_region 10 with (first
        | (go_at_call 13; refine (HOW.out _ HEW.out).mono ?_; rintro e w2 ⟨a2, c2, qs2, rfl, ho2, hb2⟩; have HO2 := Hid.mk' ho2; have HB2 := Hid.mk' hb2; have HOF := Hid.mk' (cof_any qs2 a2 c2 w2 (by rw [ho2.len]; exact ho2.rl) ho2.cap (ho2.wb HB.out) (by rw [ho2.len]; omega)); rw [ho2.rs, ho2.len] at HOF; clear ho2 hb2)
        | (go_at_call 14; refine HOF.out.mono ?_; rintro e w3 ⟨pv, rfl, h1, -, hb3⟩; obtain ⟨rfl, cc, qc, hcc, hqc⟩ := h1 HZ.out; have HCC := Hid.mk' hcc; have HQC := Hid.mk' hqc; have HB3 := Hid.mk' (HB2.out.trans hb3); clear h1 hcc hqc hb3))
      clear HOF HO2
      go_upto_region 11 with (first
        | (go_at_call 13; refine (HOB.out _ HB3.out).mono ?_; rintro e w4 ⟨a4, c4, qs4, rfl, ho4, hb4⟩; rw [show ps.length = ps.reverse.length by rw [List.length_reverse]] at ho4; have HO4 := Hid.mk' ho4; have HB4 := Hid.mk' hb4; have HOG := Hid.mk' (cof_any qs4 a4 c4 w4 (by rw [ho4.len]; exact ho4.rl) ho4.cap (ho4.wb (fun p hp => HB.out p (List.mem_reverse.1 hp))) (by rw [ho4.len, List.length_reverse]; omega)); rw [ho4.rs, ho4.len, List.length_reverse] at HOG; clear ho4 hb4)
        | (go_at_call 14; refine HOG.out.mono ?_; rintro e w5 ⟨pv, rfl, h1, -, hb5⟩; obtain ⟨rfl, dd, qd, hdd, hqd⟩ := h1 HREV.out; have HDD := Hid.mk' hdd; have HQD := Hid.mk' hqd; have HB5 := Hid.mk' (HB4.out.trans hb5); clear h1 hdd hqd hb5))
      have HEC : Hid (qc.map RR.r = qd.map RR.r) := Hid.mk' (by rw [HQC.out, HQD.out]; exact HSAME.out.symm)
      have HEW' : Hid (qc.map RR.r = (upP ps ps.length).map RR.r) := Hid.mk' (by rw [HQC.out, upP_r, List.length_map])
      have HCC5 := Hid.mk' (HCC.out.ext HB5.out)
      have HBK := Hid.mk' (fun W (h : Ext w5 W) => back9_any _ _ cc qc W (HCC5.out.ext h))
      have HS1 := Hid.mk' (fun W (h : Ext w5 W) => csame_any _ _ _ _ cc dd qc qd W (HCC5.out.ext h) (HDD.out.ext h))
      have HS2 := Hid.mk' (fun W (h : Ext w5 W) => csame_any _ _ _ _ dd cc qd qc W (HDD.out.ext h) (HCC5.out.ext h))
      rw [HEC.out, rlsB_true.2 rfl] at HS1
      rw [HEC.out, rlsB_true.2 rfl] at HS2
      have HW5 : Hid (RL w5 (.slice aw (upP ps ps.length).length cw) (upP ps ps.length)) := Hid.mk' (HW2.out.ext (HB3.out.trans HB5.out))
      have HEWW : Hid (Ext w w5) := Hid.mk' (HEW.out.trans (HB3.out.trans HB5.out))
      have H16 := Hid.mk' (up_n16 HQC.out)
      have H17 : Hid (∀ p ∈ upP ps ps.length, p.r.cols.length ≤ 9223372036854775807) := Hid.mk' (fun p hp => by have := (HB.out p (upP_mem hp)).n; omega)
      clear HCC HW2 HRO HOW HOB HOG HO4
      go_upto_region 14 with (go_at_call 16; refine (HBK.out _ (Ext.refl _)).mono ?_; rintro e w6 ⟨a6, c6, rs, rfl, hbk, hb6⟩; have HBK6 := Hid.mk' hbk; have HB6 := Hid.mk' hb6; clear hbk hb6)
      have HR9 := Hid.mk' (fun W (h : Ext w6 W) => rsame9_any rs (upP ps ps.length) a6 aw c6 cw W (HBK6.out.rl.ext h) (HW5.out.ext (HB6.out.trans h)) (by have := congrArg List.length HBK6.out.r; simp only [List.length_map] at this; have := H16.out.1; omega) (fun p hp => by
        obtain ⟨q, hq, e⟩ := mem_r HBK6.out.r hp
        rw [← e]; have := H16.out.2 q hq; omega) H17.out)
      rw [HBK6.out.r, HEW'.out, rlsB_true.2 rfl] at HR9
      clear HBK
      go_wp2_with (first
        | (go_at_call_of 32 (Value.pointer (some ⟨w2.heap.size, 0, none⟩)); (fail_if_success have _ := HB7); refine (HS1.out _ HB6.out).mono ?_; rintro e w7 ⟨rfl, hb7⟩; have HB7 := Hid.mk' hb7; clear hb7)
        | (go_at_call 32; refine (HS2.out _ (HB6.out.trans HB7.out)).mono ?_; rintro e w8 ⟨rfl, hb8⟩; have HB8 := Hid.mk' (HB7.out.trans hb8); clear hb8)
        | (go_at_call 17; refine (HR9.out _ HB8.out).mono ?_; rintro e w9 ⟨rfl, hb9⟩; have HB9 := Hid.mk' (HB8.out.trans hb9); clear hb9)
        | (go_at_call 18; refine (awake9_any _).mono ?_; rintro e w10 ⟨rfl, hb10⟩; have HB10 := Hid.mk' (HB9.out.trans hb10); clear hb10))
      go_ret
      exact ⟨rfl, HEWW.out.trans (HB6.out.trans HB10.out)⟩

end Go.Proofs.Ythdjinicmnhgpaa
