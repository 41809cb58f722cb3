/-
Is a catalog, or a message, more than is looked at?
-/
import Derived.Test.YtihldginolbooaaGreatDoorP22
import Derived.Test.YtihldginolbooaaGreatDoorP23
import Derived.Test.YtihldginolbooaaGreatDoorP19
namespace Go.Proofs.YtihldginolbooaaGreatDoor
open Go.RowKit

theorem own_nil {w : World} {N : Nat} {t : TypeId} {k : Nat} (h : N ≤ w.heap.size) : (w.alloc (.cells #[] t)).ownsRow N t k (.slice (some ⟨w.heap.size, 0, none⟩) 0 0) 0 [] :=
  ⟨by simp, .inr ⟨w.heap.size, 0, #[], rfl, h, Blk.new _ _ _, Nat.le_refl _, by unfold maxLen; omega, by simp, by simp⟩⟩
theorem own_ne {w : World} {base k n : Nat} {v : Value} {xs : List Value} {t t2 : TypeId} {cs : Array Value} {g : Nat} (h : w.ownsRow base t k v n xs) (ht : t2 ≠ t) (hb : Blk w g cs t2) : ¬ v.ownBlock = some g := by
  rcases h.2 with ⟨rfl, -⟩ | ⟨g', cap, cur, rfl, -, hh, -⟩
  · intro e; cases e
  · intro e
    have e : some g' = some g := e
    injection e with e
    subst e
    have h1 : w.heap[g']? = some (.cells cs t2) := hb
    have h2 : w.heap[g']? = some (.cells cur t) := hh
    rw [h1] at h2
    injection h2 with h2
    injection h2 with h2 h3
    exact ht h3
theorem sl_blk {w : World} {g : Nat} {cs : Array Value} {t : TypeId} (h : Blk w g cs t) : Sl w (.slice (some ⟨g, 0, none⟩) 1 1) cs.size [cs.toList] := by
  refine ⟨_, 1, rfl, .inr ⟨g, 0, rfl, h.lt, fun i hi j hj => ?_⟩⟩
  obtain rfl : i = 0 := by simpa using hi
  rw [Nat.zero_mul, Nat.zero_add, h.cell j]
  simp
theorem not_up20 {L : Array Bool} {i : Nat} (h : L.getD i true = false) : ¬ up L i := by
  unfold up
  simp only [Array.getD_eq_getD_getElem?] at *
  cases h2 : L[i]? with
  | none => rw [h2] at h; simp at h
  | some b => rw [h2] at h; simp at h; simp [h]

set_option maxRecDepth 20000 in
theorem wp_append_sl {P : Program} {w : World} {o : Oper} {a : Act} {K : Act → World → Prop} {Q : Exit → Act → World → Prop} (s x : Operand) (t : TypeId)
    (ho : o.op = .call { callee := .builtin .append, args := #[s, x], argTypes := #[t, t] })
    (base : Nat) (e : TypeId) (i : TypeInfo) (z : Value) (size bytes : Nat) (ht : P.underlying t = some (.slice e)) (hi : P.info? e = some i) (hz : i.zero = some z)
    (hsize : i.size = size) (hby : i.bytes = bytes) (hzs : z.cells.size = size) (hsz : 0 < size)
    (v : Value) (n : Nat) (xs : List Value) (hs : a.eval s = v) (hown : w.ownsRow base e size v n xs) (u : Value) (xss : List (List Value)) (hx : a.eval x = u) (hu : Sl w u size xss)
    (hk : ∀ ys ∈ xss, ys.length = size) (h1 : ∀ y ∈ xss.flatten, y.oneCell' = true) (h63 : n + xss.length ≤ maxLen) (hbytes : (n + xss.length) * bytes ≤ 140737488355328) (hbase : base ≤ w.heap.size)
    (h : ∀ v' w', w'.ownsRow base e size v' (n + xss.length) (xs ++ xss.flatten) → w.grownBy w' v.ownBlock → (v'.ownBlock = v.ownBlock ∨ v'.ownBlock = some w.heap.size) → K (a.put o.dst v') w') : o.wp P a w K Q := by
  obtain ⟨A, cap, rfl, hcs⟩ := hu
  have key : ∃ v' w', (Builtin.append_ #[t, t] o.type #[v, .slice A xss.length cap]).run P w = .ok v' w' ∧ w'.ownsRow base e size v' (n + xss.length) (xs ++ xss.flatten) ∧ w.grownBy w' v.ownBlock ∧ (v'.ownBlock = v.ownBlock ∨ v'.ownBlock = some w.heap.size) := by
    rcases A with _ | ad
    · have h0 : xss = [] := by
        rcases hcs with h | ⟨b, o, e, _⟩
        · exact h
        · cases e
      subst h0
      exact ⟨v, w, run_app_nil base t o.type e i size ht hi v n xs hown cap, by simpa using hown, ⟨rfl, rfl, rfl, Nat.le_refl _, fun _ _ _ => rfl⟩, .inl rfl⟩
    · have hn : ∀ j u, xss.flatten[j]? = some u → w.cell? (ad.add j) = some u := by
        rcases hcs with h | ⟨b, o', e', _, hc⟩
        · subst h; intro j u hj; simp at hj
        · cases e'
          exact news_sl hsz hk hc
      obtain ⟨v', w', hr, h2, h3, _, h5⟩ := run_append_own_at (P := P) w base t o.type e i z size bytes ht hi hz hsize hby hzs hsz v n xs hown ad xss.length cap xss.flatten (flat_length size xss hk) hn h1 h63 hbytes hbase
      exact ⟨v', w', hr, h2, h3, h5⟩
  obtain ⟨v', w', hrun, h2, h3, h4⟩ := key
  unfold Oper.wp execOp
  simp only [ho, resolve, invoke, builtin, Sem.run_bind, Sem.run_pure, Result.andThen_ok, List.map_toArray, List.map_cons, List.map_nil, hs, hx, hrun]
  exact h v' w' h2 h3 h4

def GI (W0 : World) (N X : Nat) (F : Value → Value → Value → Value → Value → Value → Value → Value → Value → Value → Value → Value → Value → Value → Array Value) (cv : Value) (rv ev : Array Value) (ps : List RR) (Pg : Bool → Prop) (L : Array Bool) (a : Act) (w : World) : Prop :=
  ∃ v4 v5 v6 v7 v8 v9 v10 v11 v12 v13 v14 v15 v16 v17, a = { tmps := F v4 v5 v6 v7 v8 v9 v10 v11 v12 v13 v14 v15 v16 v17, defers := [] } ∧ Ext W0 w ∧ (up L 0 → ∃ g, v5 = .slice (some ⟨g, 0, none⟩) 0 0 ∧ N ≤ g ∧ g < w.heap.size ∧ (up L 2 ∨ w.ownsRow N 29 5 v5 0 [])) ∧ (up L 1 → v6 = cv) ∧ (up L 2 → up L 6 ∨ w.ownsRow N 29 5 v7 ps.length (ps.map RR.cells).flatten) ∧ (up L 3 → v8 = .pointer (some ⟨X, 4, none⟩)) ∧ (up L 4 → v9 = .agg rv) ∧ (up L 5 → up L 6 ∨ ∃ g, v10 = .slice (some ⟨g, 0, none⟩) 1 1 ∧ N ≤ g ∧ Blk w g rv 29 ∧ (up L 0 → v5.ownBlock ≠ some g) ∧ (up L 2 → v7.ownBlock ≠ some g)) ∧ (up L 6 → w.ownsRow N 29 5 v11 (ps.length + 1) ((ps.map RR.cells).flatten ++ rv.toList)) ∧ (up L 7 → v12 = .pointer (some ⟨X, 9, none⟩)) ∧ (up L 8 → v13 = .agg ev) ∧ (up L 9 → ∃ g, v14 = .slice (some ⟨g, 0, none⟩) 1 1 ∧ N ≤ g ∧ Blk w g ev 33) ∧ (up L 10 → v15 = .agg #[.int .u32 0, .int .u64 0, v14]) ∧ (up L 11 → ∃ g, v16 = .slice (some ⟨g, 0, none⟩) 1 1 ∧ N ≤ g ∧ Blk w g #[.int .u32 0, .int .u64 0, v14] 72) ∧ (up L 12 → ∃ g, v17 = .bool g ∧ Pg g) ∧ (up L 13 → v4 = v17) ∧ (up L 6 → up L 5 ∧ up L 2) ∧ (up L 2 → up L 0) ∧ (up L 10 → up L 9) ∧ (up L 11 → up L 9) ∧ (up L 13 → up L 12)

set_option maxRecDepth 20000 in
theorem great20_call (p : ML) (ps : List RR) (a : Option Addr) (cap : Nat) (w : World) (hp : p.at 6 K.rc w) (hl : RL w (.slice a ps.length cap) ps) (hb : ∀ p ∈ ps, p.r.wb) (hlen : ps.length ≤ 1000) (hr : p.r.r.wb) (hz : p.e.e.sz) (W : World) (a2 : Option Addr) (c2 g g2 : Nat) (h : Ext w W) {N : Nat}
    (ho : W.ownsRow N 29 5 (.slice a2 (ps.length + 1) c2) (ps.length + 1) ((ps.map RR.cells).flatten ++ p.r.cells)) (h1 : Blk W g #[.int .u8 p.e.e.kind, .int .u32 p.e.e.ao, .int .u32 p.e.e.av, .int .u8 p.e.e.old, .slice p.e.ba p.e.e.b.length p.e.bc, .slice p.e.aa p.e.e.a.length p.e.ac, .slice p.e.ra p.e.e.rs.length p.e.rc, .int .u8 p.e.e.fl] 33)
    (h2 : Blk W g2 #[.int .u32 0, .int .u64 0, .slice (some ⟨g, 0, none⟩) 1 1] 72) :
    Calls Tryz.prog 19 #[.slice a2 (ps.length + 1) c2, .slice (some ⟨g2, 0, none⟩) 1 1] W fun e w' => ∃ b : Bool, e = .returned (.bool b) ∧ (b = false → p.r.r.cols.length ≤ 20 ∧ p.e.e.lit ∧ ∀ q ∈ ps, q.r.cols.length ≤ 20) ∧ Ext W w' := by
  have hs := Sl.of_owns (xss := (ps ++ [p.r]).map RR.cells) (by rw [List.length_map, List.length_append, List.length_singleton]; simpa using ho) (by intro xs hxs; rw [List.mem_map] at hxs; obtain ⟨_, _, rfl⟩ := hxs; rfl)
  have hrl : RL W (.slice a2 (ps ++ [p.r]).length c2) (ps ++ [p.r]) := ⟨by rw [List.length_append, List.length_singleton]; exact hs, fun q hq => by
    rcases List.mem_append.1 hq with hq | hq
    · exact (hl.sl q hq).ext h
    · rw [List.mem_singleton.1 hq]; exact hp.1.ext h⟩
  have hts : TS 6 K.rc W (.slice (some ⟨g2, 0, none⟩) ([⟨0, 0, [p.e], some ⟨g, 0, none⟩, 1⟩] : List TL).length 1) [⟨0, 0, [p.e], some ⟨g, 0, none⟩, 1⟩] := ⟨sl_blk h2, fun t ht => by
    obtain rfl := List.mem_singleton.1 ht
    exact ⟨sl_blk h1, fun e he => by obtain rfl := List.mem_singleton.1 he; exact hp.2.ext h⟩⟩
  have hg := greatT_any (ps ++ [p.r]) [⟨0, 0, [p.e], some ⟨g, 0, none⟩, 1⟩] a2 (some ⟨g2, 0, none⟩) c2 1 W hrl hts (by rw [List.length_append, List.length_singleton]; omega) (by simp) (fun q hq => by
    rcases List.mem_append.1 hq with hq | hq
    · exact hb q hq
    · rw [List.mem_singleton.1 hq]; exact hr) (fun t ht => by
    obtain rfl := List.mem_singleton.1 ht
    exact ⟨by simp, fun e he => by obtain rfl := List.mem_singleton.1 he; exact hz, Int.le_refl 0⟩)
  rw [List.length_append, List.length_singleton] at hg
  refine hg.mono fun e w' hh => ?_
  obtain ⟨b, rfl, h3, h4⟩ := hh
  refine ⟨b, rfl, fun hb => ?_, h4⟩
  have h5 := h3 hb
  exact ⟨h5.r p.r (List.mem_append.2 (.inr (List.mem_singleton.2 rfl))), h5.e _ (List.mem_singleton.2 rfl) p.e (by simp), fun q hq => h5.r q (List.mem_append.2 (.inl hq))⟩

set_option maxRecDepth 100000 in set_option maxHeartbeats 8000000 in
theorem great20_any (p : ML) (ps : List RR) (a : Option Addr) (cap : Nat) (w : World) (hp : p.at 6 K.rc w) (hl : RL w (.slice a ps.length cap) ps) (hb : ∀ p ∈ ps, p.r.wb) (hlen : ps.length ≤ 1000) (hr : p.r.r.wb) (hz : p.e.e.sz) :
    Calls Tryz.prog 4 #[.slice a ps.length cap, p.agg] w fun e w' => ∃ g : Bool, e = .returned (.bool g) ∧ (g = false → p.r.r.cols.length ≤ 20 ∧ p.e.e.lit ∧ ∀ q ∈ ps, q.r.cols.length ≤ 20) ∧ Ext w w' := by
  obtain ⟨i0, hi0, hz0, hz1, hz2⟩ := info_parts Tryz.infoRRel
  have HLS := Hid.mk' (fun W (h : Ext w W) => hl.row.ext h)
  have HONE := Hid.mk' (show ∀ y ∈ (ps.map RR.cells).flatten, y.oneCell' = true from fun y hy => by
    simp only [List.mem_flatten, List.mem_map] at hy
    obtain ⟨_, ⟨q, _, rfl⟩, hy⟩ := hy
    simp [RR.cells] at hy
    rcases hy with rfl | rfl | rfl | rfl | rfl <;> rfl)
  have HGR := Hid.mk' (great20_call p ps a cap w hp hl hb hlen hr hz)
  clear hp hl hb hz hr
  obtain ⟨k, x, st, n, ⟨⟨o, v, nm, id, cols⟩, ca, cc⟩, ⟨⟨kd, ao, av, old, b, aa, rs, fl⟩, ba, bc, aad, ac, ra, rc⟩⟩ := p
  rw [show (ML.agg (⟨k, x, st, n, ⟨⟨o, v, nm, id, cols⟩, ca, cc⟩, ⟨⟨kd, ao, av, old, b, aa, rs, fl⟩, ba, bc, aad, ac, ra, rc⟩⟩ : ML)) = .agg #[.int .u8 k, .int .u32 x, .int .u64 st, .int .u32 n, .int .u32 o, .int .u32 v, .string nm, .int .u8 id, .slice ca cols.length cc, .int .u8 kd, .int .u32 ao, .int .u32 av, .int .u8 old, .slice ba b.length bc, .slice aad aa.length ac, .slice ra rs.length rc, .int .u8 fl] from rfl]
  dsimp only at HGR ⊢
  have HX := Hid.mk' (show Blk (w.alloc (.cells #[.int .u8 k, .int .u32 x, .int .u64 st, .int .u32 n, .int .u32 o, .int .u32 v, .string nm, .int .u8 id, .slice ca cols.length cc, .int .u8 kd, .int .u32 ao, .int .u32 av, .int .u8 old, .slice ba b.length bc, .slice aad aa.length ac, .slice ra rs.length rc, .int .u8 fl] 35)) w.heap.size #[.int .u8 k, .int .u32 x, .int .u64 st, .int .u32 n, .int .u32 o, .int .u32 v, .string nm, .int .u8 id, .slice ca cols.length cc, .int .u8 kd, .int .u32 ao, .int .u32 av, .int .u8 old, .slice ba b.length bc, .slice aad aa.length ac, .slice ra rs.length rc, .int .u8 fl] 35 from Blk.new _ _ _)
  have HE1 := Hid.mk' (show Ext w (w.alloc (.cells #[.int .u8 k, .int .u32 x, .int .u64 st, .int .u32 n, .int .u32 o, .int .u32 v, .string nm, .int .u8 id, .slice ca cols.length cc, .int .u8 kd, .int .u32 ao, .int .u32 av, .int .u8 old, .slice ba b.length bc, .slice aad aa.length ac, .slice ra rs.length rc, .int .u8 fl] 35)) from (Ext.refl w).alloc _)
  have HSZ := Hid.mk' (show (w.alloc (.cells #[.int .u8 k, .int .u32 x, .int .u64 st, .int .u32 n, .int .u32 o, .int .u32 v, .string nm, .int .u8 id, .slice ca cols.length cc, .int .u8 kd, .int .u32 ao, .int .u32 av, .int .u8 old, .slice ba b.length bc, .slice aad aa.length ac, .slice ra rs.length rc, .int .u8 fl] 35)).heap.size = w.heap.size + 1 by simp)
  obtain ⟨w1, hw1⟩ : ∃ W, W = w.alloc (.cells #[.int .u8 k, .int .u32 x, .int .u64 st, .int .u32 n, .int .u32 o, .int .u32 v, .string nm, .int .u8 id, .slice ca cols.length cc, .int .u8 kd, .int .u32 ao, .int .u32 av, .int .u8 old, .slice ba b.length bc, .slice aad aa.length ac, .slice ra rs.length rc, .int .u8 fl] 35) := ⟨_, rfl⟩
  rw [← hw1] at HX HE1 HSZ
  generalize hPG : (fun g : Bool => g = false → cols.length ≤ 20 ∧ Ev.lit ⟨kd, ao, av, old, b, aa, rs, fl⟩ ∧ ∀ q ∈ ps, q.r.cols.length ≤ 20) = Pg
  have hPGe : ∀ g, Pg g ↔ (g = false → cols.length ≤ 20 ∧ Ev.lit ⟨kd, ao, av, old, b, aa, rs, fl⟩ ∧ ∀ q ∈ ps, q.r.cols.length ≤ 20) := fun g => by rw [← hPG]
  have HPG := Hid.mk' hPGe
  clear hPG hPGe
  go_enter Tryz.func4, Tryz.ntmps4
  go_upto_region 1 with (fail)
  rw [← hw1]
  clear hw1
  obtain ⟨X, hX⟩ : ∃ X, X = w.heap.size := ⟨_, rfl⟩
  rw [← hX] at HX HSZ ⊢
  clear hX
  obtain ⟨N, hNN⟩ : ∃ N, N = w1.heap.size := ⟨_, rfl⟩
  have HNN := Hid.mk' hNN
  clear hNN
  refine wp_region_inv (by kernel_rfl) (GI w1 N X (fun v4 v5 v6 v7 v8 v9 v10 v11 v12 v13 v14 v15 v16 v17 => #[.slice a ps.length cap, .agg #[.int .u8 k, .int .u32 x, .int .u64 st, .int .u32 n, .int .u32 o, .int .u32 v, .string nm, .int .u8 id, .slice ca cols.length cc, .int .u8 kd, .int .u32 ao, .int .u32 av, .int .u8 old, .slice ba b.length bc, .slice aad aa.length ac, .slice ra rs.length rc, .int .u8 fl], undef, .pointer (some ⟨X, 0, none⟩), v4, v5, v6, v7, v8, v9, v10, v11, v12, v13, v14, v15, v16, v17]) (.slice a ps.length cap) #[.int .u32 o, .int .u32 v, .string nm, .int .u8 id, .slice ca cols.length cc] #[.int .u8 kd, .int .u32 ao, .int .u32 av, .int .u8 old, .slice ba b.length bc, .slice aad aa.length ac, .slice ra rs.length rc, .int .u8 fl] ps Pg) ?h0 ?fin ?step
  case h0 =>
    refine ⟨_, _, _, _, _, _, _, _, _, _, _, _, _, _, rfl, (Ext.refl _).drew, ?_, ?_, ?_, ?_, ?_, ?_, ?_, ?_, ?_, ?_, ?_, ?_, ?_, ?_, ?_, ?_, ?_, ?_, ?_⟩ <;> (intro h; exact absurd h up_none)
  case fin =>
    intro L aF wx hs hI hr
    have p0 := up_of_done hr hs (i := 0) rfl (fun e he _ => by simp at he)
    have p1 := up_of_done hr hs (i := 1) rfl (fun e he _ => by simp at he)
    have p2 := up_of_done hr hs (i := 2) rfl (fun e he hb => by
      simp at he
      (repeat' (rcases he with rfl | he)) <;> first | (subst he; first | exact p0 | exact p1 | exact (absurd hb (by decide))) | exact p0 | exact p1 | exact (absurd hb (by decide)))
    have p3 := up_of_done hr hs (i := 3) rfl (fun e he _ => by simp at he)
    have p4 := up_of_done hr hs (i := 4) rfl (fun e he hb => by
      simp at he
      (repeat' (rcases he with rfl | he)) <;> first | (subst he; first | exact p0 | exact p1 | exact p2 | exact p3 | exact (absurd hb (by decide))) | exact p0 | exact p1 | exact p2 | exact p3 | exact (absurd hb (by decide)))
    have p5 := up_of_done hr hs (i := 5) rfl (fun e he hb => by
      simp at he
      (repeat' (rcases he with rfl | he)) <;> first | (subst he; first | exact p0 | exact p1 | exact p2 | exact p3 | exact p4 | exact (absurd hb (by decide))) | exact p0 | exact p1 | exact p2 | exact p3 | exact p4 | exact (absurd hb (by decide)))
    have p6 := up_of_done hr hs (i := 6) rfl (fun e he hb => by
      simp at he
      (repeat' (rcases he with rfl | he)) <;> first | (subst he; first | exact p0 | exact p1 | exact p2 | exact p3 | exact p4 | exact p5 | exact (absurd hb (by decide))) | exact p0 | exact p1 | exact p2 | exact p3 | exact p4 | exact p5 | exact (absurd hb (by decide)))
    have p7 := up_of_done hr hs (i := 7) rfl (fun e he _ => by simp at he)
    have p8 := up_of_done hr hs (i := 8) rfl (fun e he hb => by
      simp at he
      (repeat' (rcases he with rfl | he)) <;> first | (subst he; first | exact p0 | exact p1 | exact p2 | exact p3 | exact p4 | exact p5 | exact p6 | exact p7 | exact (absurd hb (by decide))) | exact p0 | exact p1 | exact p2 | exact p3 | exact p4 | exact p5 | exact p6 | exact p7 | exact (absurd hb (by decide)))
    have p9 := up_of_done hr hs (i := 9) rfl (fun e he hb => by
      simp at he
      (repeat' (rcases he with rfl | he)) <;> first | (subst he; first | exact p0 | exact p1 | exact p2 | exact p3 | exact p4 | exact p5 | exact p6 | exact p7 | exact p8 | exact (absurd hb (by decide))) | exact p0 | exact p1 | exact p2 | exact p3 | exact p4 | exact p5 | exact p6 | exact p7 | exact p8 | exact (absurd hb (by decide)))
    have p10 := up_of_done hr hs (i := 10) rfl (fun e he hb => by
      simp at he
      (repeat' (rcases he with rfl | he)) <;> first | (subst he; first | exact p0 | exact p1 | exact p2 | exact p3 | exact p4 | exact p5 | exact p6 | exact p7 | exact p8 | exact p9 | exact (absurd hb (by decide))) | exact p0 | exact p1 | exact p2 | exact p3 | exact p4 | exact p5 | exact p6 | exact p7 | exact p8 | exact p9 | exact (absurd hb (by decide)))
    have p11 := up_of_done hr hs (i := 11) rfl (fun e he hb => by
      simp at he
      (repeat' (rcases he with rfl | he)) <;> first | (subst he; first | exact p0 | exact p1 | exact p2 | exact p3 | exact p4 | exact p5 | exact p6 | exact p7 | exact p8 | exact p9 | exact p10 | exact (absurd hb (by decide))) | exact p0 | exact p1 | exact p2 | exact p3 | exact p4 | exact p5 | exact p6 | exact p7 | exact p8 | exact p9 | exact p10 | exact (absurd hb (by decide)))
    have p12 := up_of_done hr hs (i := 12) rfl (fun e he hb => by
      simp at he
      (repeat' (rcases he with rfl | he)) <;> first | (subst he; first | exact p0 | exact p1 | exact p2 | exact p3 | exact p4 | exact p5 | exact p6 | exact p7 | exact p8 | exact p9 | exact p10 | exact p11 | exact (absurd hb (by decide))) | exact p0 | exact p1 | exact p2 | exact p3 | exact p4 | exact p5 | exact p6 | exact p7 | exact p8 | exact p9 | exact p10 | exact p11 | exact (absurd hb (by decide)))
    have p13 := up_of_done hr hs (i := 13) rfl (fun e he hb => by
      simp at he
      (repeat' (rcases he with rfl | he)) <;> first | (subst he; first | exact p0 | exact p1 | exact p2 | exact p3 | exact p4 | exact p5 | exact p6 | exact p7 | exact p8 | exact p9 | exact p10 | exact p11 | exact p12 | exact (absurd hb (by decide))) | exact p0 | exact p1 | exact p2 | exact p3 | exact p4 | exact p5 | exact p6 | exact p7 | exact p8 | exact p9 | exact p10 | exact p11 | exact p12 | exact (absurd hb (by decide)))
    obtain ⟨v4, v5, v6, v7, v8, v9, v10, v11, v12, v13, v14, v15, v16, v17, rfl, hE, -, -, -, -, -, -, -, -, -, -, -, -, c12, c13, -, -, -, -, -⟩ := hI
    obtain ⟨g, rfl, hg⟩ := c12 p12
    obtain rfl := c13 p13
    have HE := Hid.mk' (HE1.out.trans hE)
    have HG := Hid.mk' ((HPG.out g).1 hg)
    clear hE hg hr hs c12 c13
    go_wp2
    go_ret
    exact ⟨g, rfl, HG.out, HE.out⟩
  case step =>
    intro L aF wx i hs hI hi
    have hlt := ready_lt hi
    have hnu := not_up20 (mem_ready.1 hi).1
    obtain ⟨v4, v5, v6, v7, v8, v9, v10, v11, v12, v13, v14, v15, v16, v17, rfl, hE, c0, c1, c2, c3, c4, c5, c6, c7, c8, c9, c10, c11, c12, c13, d6, d2, d10, d11, d13⟩ := hI
    obtain ⟨K, hK⟩ : ∃ K : Act → World → Prop, ∀ a' w', K a' w' ↔ GI w1 N X (fun v4 v5 v6 v7 v8 v9 v10 v11 v12 v13 v14 v15 v16 v17 => #[.slice a ps.length cap, .agg #[.int .u8 k, .int .u32 x, .int .u64 st, .int .u32 n, .int .u32 o, .int .u32 v, .string nm, .int .u8 id, .slice ca cols.length cc, .int .u8 kd, .int .u32 ao, .int .u32 av, .int .u8 old, .slice ba b.length bc, .slice aad aa.length ac, .slice ra rs.length rc, .int .u8 fl], undef, .pointer (some ⟨X, 0, none⟩), v4, v5, v6, v7, v8, v9, v10, v11, v12, v13, v14, v15, v16, v17]) (.slice a ps.length cap) #[.int .u32 o, .int .u32 v, .string nm, .int .u8 id, .slice ca cols.length cc] #[.int .u8 kd, .int .u32 ao, .int .u32 av, .int .u8 old, .slice ba b.length bc, .slice aad aa.length ac, .slice ra rs.length rc, .int .u8 fl] ps Pg (L.setIfInBounds i true) a' w' := ⟨_, fun _ _ => Iff.rfl⟩
    refine wpOp_mono (fun a' w' h => (hK a' w').1 h) ?_
    have HK := Hid.mk' hK
    have HE := Hid.mk' hE
    have hN : N ≤ wx.heap.size := by have := hE.size; have := HNN.out; omega
    have od : ∀ {j : Nat}, j ≠ i → up (L.setIfInBounds i true) j → up L j := fun hj h => ((up_set (by rw [hs]; exact hlt)).1 h).resolve_left hj
    have keep : ∀ {j : Nat}, up L j → up (L.setIfInBounds i true) j := fun h => (up_set (by rw [hs]; exact hlt)).2 (.inr h)
    have now : up (L.setIfInBounds i true) i := (up_set (by rw [hs]; exact hlt)).2 (.inl rfl)
    have he : 33 ≠ 29 := by decide
    have ht : 72 ≠ 29 := by decide
    have hNW : w1.heap.size = N := HNN.out.symm
    clear hK hE
    have hi14 : i = 0 ∨ i = 1 ∨ i = 2 ∨ i = 3 ∨ i = 4 ∨ i = 5 ∨ i = 6 ∨ i = 7 ∨ i = 8 ∨ i = 9 ∨ i = 10 ∨ i = 11 ∨ i = 12 ∨ i = 13 := by
      have : i < 14 := hlt
      omega
    rcases hi14 with rfl | rfl | rfl | rfl | rfl | rfl | rfl | rfl | rfl | rfl | rfl | rfl | rfl | rfl
    · have E := (Ext.refl wx).alloc (.cells #[] 29)
      refine wpOp_ok rfl rfl ?_
      go_simp
      exact (HK.out _ _).2 ⟨_, _, _, _, _, _, _, _, _, _, _, _, _, _, rfl, HE.out.trans E, fun _ => ⟨_, rfl, hN, by simp, .inr (own_nil hN)⟩, fun h => c1 (od (by decide) h), fun h => (c2 (od (by decide) h)).imp keep (fun h => owns_ext h E), fun h => c3 (od (by decide) h), fun h => c4 (od (by decide) h), fun h => (c5 (od (by decide) h)).imp keep (fun ⟨g, e, h0, h1, h2, h3⟩ => ⟨g, e, h0, h1.ext E, fun _ e2 => by have := h1.lt; (have e2 : some wx.heap.size = some g := e2); injection e2 with e2; omega, fun h => h3 (od (by decide) h)⟩), fun h => owns_ext (c6 (od (by decide) h)) E, fun h => c7 (od (by decide) h), fun h => c8 (od (by decide) h), fun h => by obtain ⟨g, e, h0, h1⟩ := c9 (od (by decide) h); exact ⟨g, e, h0, h1.ext E⟩, fun h => c10 (od (by decide) h), fun h => by obtain ⟨g, e, h0, h1⟩ := c11 (od (by decide) h); exact ⟨g, e, h0, h1.ext E⟩, fun h => c12 (od (by decide) h), fun h => c13 (od (by decide) h), fun h => ⟨keep (d6 (od (by decide) h)).1, keep (d6 (od (by decide) h)).2⟩, fun h => keep (d2 (od (by decide) h)), fun h => keep (d10 (od (by decide) h)), fun h => keep (d11 (od (by decide) h)), fun h => keep (d13 (od (by decide) h))⟩
    · refine wpOp_ok rfl rfl ?_
      go_simp
      exact (HK.out _ _).2 ⟨_, _, _, _, _, _, _, _, _, _, _, _, _, _, rfl, HE.out, fun h => by obtain ⟨g, e, h1, h2, h3⟩ := c0 (od (by decide) h); exact ⟨g, e, h1, h2, h3.imp keep (fun h => h)⟩, fun _ => rfl, fun h => (c2 (od (by decide) h)).imp keep (fun h => h), fun h => c3 (od (by decide) h), fun h => c4 (od (by decide) h), fun h => (c5 (od (by decide) h)).imp keep (fun ⟨g, e, h0, h1, h2, h3⟩ => ⟨g, e, h0, h1, fun h => h2 (od (by decide) h), fun h => h3 (od (by decide) h)⟩), fun h => c6 (od (by decide) h), fun h => c7 (od (by decide) h), fun h => c8 (od (by decide) h), fun h => c9 (od (by decide) h), fun h => c10 (od (by decide) h), fun h => c11 (od (by decide) h), fun h => c12 (od (by decide) h), fun h => c13 (od (by decide) h), fun h => ⟨keep (d6 (od (by decide) h)).1, keep (d6 (od (by decide) h)).2⟩, fun h => keep (d2 (od (by decide) h)), fun h => keep (d10 (od (by decide) h)), fun h => keep (d11 (od (by decide) h)), fun h => keep (d13 (od (by decide) h))⟩
    · have p0 := ready_dep hi rfl (e := ⟨0, .data⟩) (by simp) rfl
      have e1 := c1 (ready_dep hi rfl (e := ⟨1, .data⟩) (by simp) rfl)
      subst e1
      obtain ⟨g0, rfl, h0, h1, h2⟩ := c0 p0
      have hv := h2.resolve_left hnu
      refine wpOp_ok rfl rfl ?_
      refine wp_append_sl (.tmp 5) (.tmp 6) 22 ?ho N 29 i0 _ 5 56 Tryz.underlying22 hi0 hz0 hz1 hz2 rfl (by decide) _ 0 [] ?ev1 hv _ (ps.map RR.cells) ?ev2 (HLS.out _ (HE1.out.trans HE.out)) (by intro xs hxs; simp at hxs; obtain ⟨_, _, rfl⟩ := hxs; rfl) HONE.out ?b1 ?b2 hN ?_
      case ho => rfl
      case ev1 => (try go_simp); (try rfl)
      case ev2 => (try go_simp); (try rfl)
      case b1 => rw [List.length_map]; unfold maxLen; omega
      case b2 => rw [List.length_map]; omega
      intro v' w' hown hg hat
      rw [List.length_map, Nat.zero_add, List.nil_append] at hown
      have HZ := hg.size
      go_simp
      exact (HK.out _ _).2 ⟨_, _, _, _, _, _, _, _, _, _, _, _, _, _, rfl, Kp.ext HE.out (fun b hb _ => by have := (owns_lt3 hv hb).1; omega) (Kp.of_grown hg), fun h => by obtain ⟨g, e, h1, h2, h3⟩ := c0 (od (by decide) h); exact ⟨g, e, h1, Nat.lt_of_lt_of_le h2 HZ, .inl now⟩, fun h => c1 (od (by decide) h), fun _ => .inr hown, fun h => c3 (od (by decide) h), fun h => c4 (od (by decide) h), fun h => (c5 (od (by decide) h)).imp keep (fun ⟨g, e, h0, h1, h2, h3⟩ => ⟨g, e, h0, h1.kp (Kp.of_grown hg) (fun e2 => h2 p0 e2), fun h => h2 p0, fun _ e2 => by rcases hat with q | q; exact h2 p0 (q ▸ e2); (have := h1.lt); rw [q] at e2; injection e2 with e2; omega⟩), fun h => absurd (d6 (od (by decide) h)).2 hnu, fun h => c7 (od (by decide) h), fun h => c8 (od (by decide) h), fun h => by obtain ⟨g, e, h0, h1⟩ := c9 (od (by decide) h); exact ⟨g, e, h0, h1.kp (Kp.of_grown hg) (own_ne hv he h1)⟩, fun h => c10 (od (by decide) h), fun h => by obtain ⟨g, e, h0, h1⟩ := c11 (od (by decide) h); exact ⟨g, e, h0, h1.kp (Kp.of_grown hg) (own_ne hv ht h1)⟩, fun h => c12 (od (by decide) h), fun h => c13 (od (by decide) h), fun h => ⟨keep (d6 (od (by decide) h)).1, keep (d6 (od (by decide) h)).2⟩, fun _ => keep p0, fun h => keep (d10 (od (by decide) h)), fun h => keep (d11 (od (by decide) h)), fun h => keep (d13 (od (by decide) h))⟩
    · refine wpOp_ok rfl rfl ?_
      go_simp
      exact (HK.out _ _).2 ⟨_, _, _, _, _, _, _, _, _, _, _, _, _, _, rfl, HE.out, fun h => by obtain ⟨g, e, h1, h2, h3⟩ := c0 (od (by decide) h); exact ⟨g, e, h1, h2, h3.imp keep (fun h => h)⟩, fun h => c1 (od (by decide) h), fun h => (c2 (od (by decide) h)).imp keep (fun h => h), fun _ => rfl, fun h => c4 (od (by decide) h), fun h => (c5 (od (by decide) h)).imp keep (fun ⟨g, e, h0, h1, h2, h3⟩ => ⟨g, e, h0, h1, fun h => h2 (od (by decide) h), fun h => h3 (od (by decide) h)⟩), fun h => c6 (od (by decide) h), fun h => c7 (od (by decide) h), fun h => c8 (od (by decide) h), fun h => c9 (od (by decide) h), fun h => c10 (od (by decide) h), fun h => c11 (od (by decide) h), fun h => c12 (od (by decide) h), fun h => c13 (od (by decide) h), fun h => ⟨keep (d6 (od (by decide) h)).1, keep (d6 (od (by decide) h)).2⟩, fun h => keep (d2 (od (by decide) h)), fun h => keep (d10 (od (by decide) h)), fun h => keep (d11 (od (by decide) h)), fun h => keep (d13 (od (by decide) h))⟩
    · have e3 := c3 (ready_dep hi rfl (e := ⟨3, .data⟩) (by simp) rfl)
      subst e3
      have gX := (HX.out.ext HE.out).cell
      have zX := (HX.out.ext HE.out).lt
      refine wpOp_ok rfl rfl ?_
      go_simp
      exact (HK.out _ _).2 ⟨_, _, _, _, _, _, _, _, _, _, _, _, _, _, rfl, HE.out, fun h => by obtain ⟨g, e, h1, h2, h3⟩ := c0 (od (by decide) h); exact ⟨g, e, h1, h2, h3.imp keep (fun h => h)⟩, fun h => c1 (od (by decide) h), fun h => (c2 (od (by decide) h)).imp keep (fun h => h), fun h => c3 (od (by decide) h), fun _ => rfl, fun h => (c5 (od (by decide) h)).imp keep (fun ⟨g, e, h0, h1, h2, h3⟩ => ⟨g, e, h0, h1, fun h => h2 (od (by decide) h), fun h => h3 (od (by decide) h)⟩), fun h => c6 (od (by decide) h), fun h => c7 (od (by decide) h), fun h => c8 (od (by decide) h), fun h => c9 (od (by decide) h), fun h => c10 (od (by decide) h), fun h => c11 (od (by decide) h), fun h => c12 (od (by decide) h), fun h => c13 (od (by decide) h), fun h => ⟨keep (d6 (od (by decide) h)).1, keep (d6 (od (by decide) h)).2⟩, fun h => keep (d2 (od (by decide) h)), fun h => keep (d10 (od (by decide) h)), fun h => keep (d11 (od (by decide) h)), fun h => keep (d13 (od (by decide) h))⟩
    · have e4 := c4 (ready_dep hi rfl (e := ⟨4, .data⟩) (by simp) rfl)
      subst e4
      have E := (Ext.refl wx).alloc (.cells #[.int .u32 o, .int .u32 v, .string nm, .int .u8 id, .slice ca cols.length cc] 29)
      refine wpOp_ok rfl rfl ?_
      go_simp
      exact (HK.out _ _).2 ⟨_, _, _, _, _, _, _, _, _, _, _, _, _, _, rfl, HE.out.trans E, fun h => by obtain ⟨g, e, h1, h2, h3⟩ := c0 (od (by decide) h); exact ⟨g, e, h1, Nat.lt_of_lt_of_le h2 E.size, h3.imp keep (fun h => owns_ext h E)⟩, fun h => c1 (od (by decide) h), fun h => (c2 (od (by decide) h)).imp keep (fun h => owns_ext h E), fun h => c3 (od (by decide) h), fun h => c4 (od (by decide) h), fun _ => .inr ⟨_, rfl, hN, Blk.new _ _ _, fun h e => by obtain ⟨g0, e0, h0, h1, h2⟩ := c0 (od (by decide) h); rw [e0] at e; (have e : some g0 = some wx.heap.size := e); injection e with e; omega, fun h e => by rcases c2 (od (by decide) h) with q | q; exact hnu (d6 q).1; have := (owns_lt3 q e).2; omega⟩, fun h => owns_ext (c6 (od (by decide) h)) E, fun h => c7 (od (by decide) h), fun h => c8 (od (by decide) h), fun h => by obtain ⟨g, e, h0, h1⟩ := c9 (od (by decide) h); exact ⟨g, e, h0, h1.ext E⟩, fun h => c10 (od (by decide) h), fun h => by obtain ⟨g, e, h0, h1⟩ := c11 (od (by decide) h); exact ⟨g, e, h0, h1.ext E⟩, fun h => c12 (od (by decide) h), fun h => c13 (od (by decide) h), fun h => ⟨keep (d6 (od (by decide) h)).1, keep (d6 (od (by decide) h)).2⟩, fun h => keep (d2 (od (by decide) h)), fun h => keep (d10 (od (by decide) h)), fun h => keep (d11 (od (by decide) h)), fun h => keep (d13 (od (by decide) h))⟩
    · have p2 := ready_dep hi rfl (e := ⟨2, .data⟩) (by simp) rfl
      have p5 := ready_dep hi rfl (e := ⟨5, .data⟩) (by simp) rfl
      have hv := (c2 p2).resolve_left hnu
      obtain ⟨g10, rfl, h10, hb10, -, -⟩ := (c5 p5).resolve_left hnu
      refine wpOp_ok rfl rfl ?_
      refine wp_append_sl (.tmp 7) (.tmp 10) 22 ?ho N 29 i0 _ 5 56 Tryz.underlying22 hi0 hz0 hz1 hz2 rfl (by decide) v7 ps.length _ ?ev1 hv (.slice (some ⟨g10, 0, none⟩) 1 1) [(#[.int .u32 o, .int .u32 v, .string nm, .int .u8 id, .slice ca cols.length cc]).toList] ?ev2 ?sl (by intro xs hxs; simp at hxs; subst hxs; rfl) ?one ?b1 ?b2 hN ?_
      case ho => rfl
      case ev1 => (try go_simp); (try rfl)
      case ev2 => (try go_simp); (try rfl)
      case sl => exact sl_blk hb10
      case one => intro y hy; simp at hy; rcases hy with rfl | rfl | rfl | rfl | rfl <;> rfl
      case b1 => rw [List.length_singleton]; unfold maxLen; omega
      case b2 => rw [List.length_singleton]; omega
      intro v' w' hown hg hat
      rw [List.length_singleton] at hown
      have HZ := hg.size
      go_simp
      exact (HK.out _ _).2 ⟨_, _, _, _, _, _, _, _, _, _, _, _, _, _, rfl, Kp.ext HE.out (fun b hb _ => by have := (owns_lt3 hv hb).1; omega) (Kp.of_grown hg), fun h => by obtain ⟨g, e, h1, h2, h3⟩ := c0 (od (by decide) h); exact ⟨g, e, h1, Nat.lt_of_lt_of_le h2 HZ, .inl (keep p2)⟩, fun h => c1 (od (by decide) h), fun _ => .inl now, fun h => c3 (od (by decide) h), fun h => c4 (od (by decide) h), fun _ => .inl now, fun _ => by simpa using hown, fun h => c7 (od (by decide) h), fun h => c8 (od (by decide) h), fun h => by obtain ⟨g, e, h0, h1⟩ := c9 (od (by decide) h); exact ⟨g, e, h0, h1.kp (Kp.of_grown hg) (own_ne hv he h1)⟩, fun h => c10 (od (by decide) h), fun h => by obtain ⟨g, e, h0, h1⟩ := c11 (od (by decide) h); exact ⟨g, e, h0, h1.kp (Kp.of_grown hg) (own_ne hv ht h1)⟩, fun h => c12 (od (by decide) h), fun h => c13 (od (by decide) h), fun _ => ⟨keep p5, keep p2⟩, fun h => keep (d2 (od (by decide) h)), fun h => keep (d10 (od (by decide) h)), fun h => keep (d11 (od (by decide) h)), fun h => keep (d13 (od (by decide) h))⟩
    · refine wpOp_ok rfl rfl ?_
      go_simp
      exact (HK.out _ _).2 ⟨_, _, _, _, _, _, _, _, _, _, _, _, _, _, rfl, HE.out, fun h => by obtain ⟨g, e, h1, h2, h3⟩ := c0 (od (by decide) h); exact ⟨g, e, h1, h2, h3.imp keep (fun h => h)⟩, fun h => c1 (od (by decide) h), fun h => (c2 (od (by decide) h)).imp keep (fun h => h), fun h => c3 (od (by decide) h), fun h => c4 (od (by decide) h), fun h => (c5 (od (by decide) h)).imp keep (fun ⟨g, e, h0, h1, h2, h3⟩ => ⟨g, e, h0, h1, fun h => h2 (od (by decide) h), fun h => h3 (od (by decide) h)⟩), fun h => c6 (od (by decide) h), fun _ => rfl, fun h => c8 (od (by decide) h), fun h => c9 (od (by decide) h), fun h => c10 (od (by decide) h), fun h => c11 (od (by decide) h), fun h => c12 (od (by decide) h), fun h => c13 (od (by decide) h), fun h => ⟨keep (d6 (od (by decide) h)).1, keep (d6 (od (by decide) h)).2⟩, fun h => keep (d2 (od (by decide) h)), fun h => keep (d10 (od (by decide) h)), fun h => keep (d11 (od (by decide) h)), fun h => keep (d13 (od (by decide) h))⟩
    · have e7 := c7 (ready_dep hi rfl (e := ⟨7, .data⟩) (by simp) rfl)
      subst e7
      have gX := (HX.out.ext HE.out).cell
      have zX := (HX.out.ext HE.out).lt
      refine wpOp_ok rfl rfl ?_
      go_simp
      exact (HK.out _ _).2 ⟨_, _, _, _, _, _, _, _, _, _, _, _, _, _, rfl, HE.out, fun h => by obtain ⟨g, e, h1, h2, h3⟩ := c0 (od (by decide) h); exact ⟨g, e, h1, h2, h3.imp keep (fun h => h)⟩, fun h => c1 (od (by decide) h), fun h => (c2 (od (by decide) h)).imp keep (fun h => h), fun h => c3 (od (by decide) h), fun h => c4 (od (by decide) h), fun h => (c5 (od (by decide) h)).imp keep (fun ⟨g, e, h0, h1, h2, h3⟩ => ⟨g, e, h0, h1, fun h => h2 (od (by decide) h), fun h => h3 (od (by decide) h)⟩), fun h => c6 (od (by decide) h), fun h => c7 (od (by decide) h), fun _ => rfl, fun h => c9 (od (by decide) h), fun h => c10 (od (by decide) h), fun h => c11 (od (by decide) h), fun h => c12 (od (by decide) h), fun h => c13 (od (by decide) h), fun h => ⟨keep (d6 (od (by decide) h)).1, keep (d6 (od (by decide) h)).2⟩, fun h => keep (d2 (od (by decide) h)), fun h => keep (d10 (od (by decide) h)), fun h => keep (d11 (od (by decide) h)), fun h => keep (d13 (od (by decide) h))⟩
    · have e8 := c8 (ready_dep hi rfl (e := ⟨8, .data⟩) (by simp) rfl)
      subst e8
      have E := (Ext.refl wx).alloc (.cells #[.int .u8 kd, .int .u32 ao, .int .u32 av, .int .u8 old, .slice ba b.length bc, .slice aad aa.length ac, .slice ra rs.length rc, .int .u8 fl] 33)
      refine wpOp_ok rfl rfl ?_
      go_simp
      exact (HK.out _ _).2 ⟨_, _, _, _, _, _, _, _, _, _, _, _, _, _, rfl, HE.out.trans E, fun h => by obtain ⟨g, e, h1, h2, h3⟩ := c0 (od (by decide) h); exact ⟨g, e, h1, Nat.lt_of_lt_of_le h2 E.size, h3.imp keep (fun h => owns_ext h E)⟩, fun h => c1 (od (by decide) h), fun h => (c2 (od (by decide) h)).imp keep (fun h => owns_ext h E), fun h => c3 (od (by decide) h), fun h => c4 (od (by decide) h), fun h => (c5 (od (by decide) h)).imp keep (fun ⟨g, e, h0, h1, h2, h3⟩ => ⟨g, e, h0, h1.ext E, fun h => h2 (od (by decide) h), fun h => h3 (od (by decide) h)⟩), fun h => owns_ext (c6 (od (by decide) h)) E, fun h => c7 (od (by decide) h), fun h => c8 (od (by decide) h), fun _ => ⟨_, rfl, hN, Blk.new _ _ _⟩, fun h => absurd (d10 (od (by decide) h)) hnu, fun h => absurd (d11 (od (by decide) h)) hnu, fun h => c12 (od (by decide) h), fun h => c13 (od (by decide) h), fun h => ⟨keep (d6 (od (by decide) h)).1, keep (d6 (od (by decide) h)).2⟩, fun h => keep (d2 (od (by decide) h)), fun h => keep (d10 (od (by decide) h)), fun h => keep (d11 (od (by decide) h)), fun h => keep (d13 (od (by decide) h))⟩
    · have p9 := ready_dep hi rfl (e := ⟨9, .data⟩) (by simp) rfl
      obtain ⟨g14, e14, h14, hb14⟩ := c9 p9
      subst e14
      refine wpOp_ok rfl rfl ?_
      go_simp
      exact (HK.out _ _).2 ⟨_, _, _, _, _, _, _, _, _, _, _, _, _, _, rfl, HE.out, fun h => by obtain ⟨g, e, h1, h2, h3⟩ := c0 (od (by decide) h); exact ⟨g, e, h1, h2, h3.imp keep (fun h => h)⟩, fun h => c1 (od (by decide) h), fun h => (c2 (od (by decide) h)).imp keep (fun h => h), fun h => c3 (od (by decide) h), fun h => c4 (od (by decide) h), fun h => (c5 (od (by decide) h)).imp keep (fun ⟨g, e, h0, h1, h2, h3⟩ => ⟨g, e, h0, h1, fun h => h2 (od (by decide) h), fun h => h3 (od (by decide) h)⟩), fun h => c6 (od (by decide) h), fun h => c7 (od (by decide) h), fun h => c8 (od (by decide) h), fun h => ⟨g14, rfl, h14, hb14⟩, fun _ => rfl, fun h => c11 (od (by decide) h), fun h => c12 (od (by decide) h), fun h => c13 (od (by decide) h), fun h => ⟨keep (d6 (od (by decide) h)).1, keep (d6 (od (by decide) h)).2⟩, fun h => keep (d2 (od (by decide) h)), fun _ => keep p9, fun h => keep (d11 (od (by decide) h)), fun h => keep (d13 (od (by decide) h))⟩
    · have p10 := ready_dep hi rfl (e := ⟨10, .data⟩) (by simp) rfl
      have e10 := c10 p10
      obtain ⟨g14, e14, h14, hb14⟩ := c9 (d10 p10)
      subst e14
      subst e10
      have E := (Ext.refl wx).alloc (.cells #[.int .u32 0, .int .u64 0, .slice (some ⟨g14, 0, none⟩) 1 1] 72)
      refine wpOp_ok rfl rfl ?_
      go_simp
      exact (HK.out _ _).2 ⟨_, _, _, _, _, _, _, _, _, _, _, _, _, _, rfl, HE.out.trans E, fun h => by obtain ⟨g, e, h1, h2, h3⟩ := c0 (od (by decide) h); exact ⟨g, e, h1, Nat.lt_of_lt_of_le h2 E.size, h3.imp keep (fun h => owns_ext h E)⟩, fun h => c1 (od (by decide) h), fun h => (c2 (od (by decide) h)).imp keep (fun h => owns_ext h E), fun h => c3 (od (by decide) h), fun h => c4 (od (by decide) h), fun h => (c5 (od (by decide) h)).imp keep (fun ⟨g, e, h0, h1, h2, h3⟩ => ⟨g, e, h0, h1.ext E, fun h => h2 (od (by decide) h), fun h => h3 (od (by decide) h)⟩), fun h => owns_ext (c6 (od (by decide) h)) E, fun h => c7 (od (by decide) h), fun h => c8 (od (by decide) h), fun h => by obtain ⟨g, e, h0, h1⟩ := c9 (od (by decide) h); exact ⟨g, e, h0, h1.ext E⟩, fun h => rfl, fun _ => ⟨_, rfl, hN, Blk.new _ _ _⟩, fun h => c12 (od (by decide) h), fun h => c13 (od (by decide) h), fun h => ⟨keep (d6 (od (by decide) h)).1, keep (d6 (od (by decide) h)).2⟩, fun h => keep (d2 (od (by decide) h)), fun h => keep (d10 (od (by decide) h)), fun _ => keep (d10 p10), fun h => keep (d13 (od (by decide) h))⟩
    · have p6 := ready_dep hi rfl (e := ⟨6, .data⟩) (by simp) rfl
      have p11 := ready_dep hi rfl (e := ⟨11, .data⟩) (by simp) rfl
      have ho := c6 p6
      obtain ⟨g14, e14, h14, hb14⟩ := c9 (d11 p11)
      subst e14
      obtain ⟨g16, e16, h16, hb16⟩ := c11 p11
      subst e16
      obtain ⟨a11, k11, rfl⟩ := owns_shape ho
      have HC := Hid.mk' (HGR.out wx a11 k11 g14 g16 (HE1.out.trans HE.out) ho hb14 hb16)
      clear ho
      refine wpOp_ok rfl rfl ?_
      go_simp
      refine HC.out.mono ?_
      rintro e w' ⟨g, rfl, hg, E⟩
      exact (HK.out _ _).2 ⟨_, _, _, _, _, _, _, _, _, _, _, _, _, _, rfl, HE.out.trans E, fun h => by obtain ⟨g, e, h1, h2, h3⟩ := c0 (od (by decide) h); exact ⟨g, e, h1, Nat.lt_of_lt_of_le h2 E.size, h3.imp keep (fun h => owns_ext h E)⟩, fun h => c1 (od (by decide) h), fun h => (c2 (od (by decide) h)).imp keep (fun h => owns_ext h E), fun h => c3 (od (by decide) h), fun h => c4 (od (by decide) h), fun h => (c5 (od (by decide) h)).imp keep (fun ⟨g, e, h0, h1, h2, h3⟩ => ⟨g, e, h0, h1.ext E, fun h => h2 (od (by decide) h), fun h => h3 (od (by decide) h)⟩), fun h => owns_ext (c6 (od (by decide) h)) E, fun h => c7 (od (by decide) h), fun h => c8 (od (by decide) h), fun h => by obtain ⟨g, e, h0, h1⟩ := c9 (od (by decide) h); exact ⟨g, e, h0, h1.ext E⟩, fun h => c10 (od (by decide) h), fun h => by obtain ⟨g, e, h0, h1⟩ := c11 (od (by decide) h); exact ⟨g, e, h0, h1.ext E⟩, fun _ => ⟨g, rfl, (HPG.out g).2 hg⟩, fun h => absurd (d13 (od (by decide) h)) hnu, fun h => ⟨keep (d6 (od (by decide) h)).1, keep (d6 (od (by decide) h)).2⟩, fun h => keep (d2 (od (by decide) h)), fun h => keep (d10 (od (by decide) h)), fun h => keep (d11 (od (by decide) h)), fun h => keep (d13 (od (by decide) h))⟩
    · have p12 := ready_dep hi rfl (e := ⟨12, .data⟩) (by simp) rfl
      refine wpOp_ok rfl rfl ?_
      go_simp
      exact (HK.out _ _).2 ⟨_, _, _, _, _, _, _, _, _, _, _, _, _, _, rfl, HE.out, fun h => by obtain ⟨g, e, h1, h2, h3⟩ := c0 (od (by decide) h); exact ⟨g, e, h1, h2, h3.imp keep (fun h => h)⟩, fun h => c1 (od (by decide) h), fun h => (c2 (od (by decide) h)).imp keep (fun h => h), fun h => c3 (od (by decide) h), fun h => c4 (od (by decide) h), fun h => (c5 (od (by decide) h)).imp keep (fun ⟨g, e, h0, h1, h2, h3⟩ => ⟨g, e, h0, h1, fun h => h2 (od (by decide) h), fun h => h3 (od (by decide) h)⟩), fun h => c6 (od (by decide) h), fun h => c7 (od (by decide) h), fun h => c8 (od (by decide) h), fun h => c9 (od (by decide) h), fun h => c10 (od (by decide) h), fun h => c11 (od (by decide) h), fun h => c12 (od (by decide) h), fun _ => rfl, fun h => ⟨keep (d6 (od (by decide) h)).1, keep (d6 (od (by decide) h)).2⟩, fun h => keep (d2 (od (by decide) h)), fun h => keep (d10 (od (by decide) h)), fun h => keep (d11 (od (by decide) h)), fun _ => keep p12⟩

end Go.Proofs.YtihldginolbooaaGreatDoor
