/-
Events of the arguments, opened: what each number is within.
-/
import Derived.Test.YtihldginolbooaaGreatDoorP30
import Derived.Test.YtihldginolbooaaGreatDoorP40
import Derived.Test.YtihldginolbooaaGreatDoorP29
import Derived.Test.YtihldginolbooaaGreatDoorP31
import Derived.Test.YtihldginolbooaaGreatDoorP13
import Derived.Test.YtihldginolbooaaGreatDoorP14
namespace Go.Proofs.YtihldginolbooaaGreatDoor
open Go.RowKit Go.ChangeShapes Go.WideShapes Go.ChangeAt

section
variable {H : Type} {enc : TypeId × Value → H} {w : World} {base : Nat} {spare : Nat → Bool} {held : Bool} {r : Reach} {base2 : Nat} {v : Value} {d : DataW H} {ps : List MemPlace}
theorem Lf.rowEw {c : Value} (h : Lf enc Tryz.prog w base spare held 30 c) : ∃ (l : List K) (a : Option Addr) (cap : Nat), c = .slice a l.length cap ∧ Sl w (.slice a l.length cap) 6 (l.map K.rc) ∧ l.length ≤ 9223372036854775807 ∧ ∀ c ∈ l, c.tw := by
  obtain ⟨m, x, h4⟩ := h
  obtain ⟨v', xss, hcs, hsl, hlen, hx⟩ := trod_sl Tryz.underlying30 Tryz.cellsCellG (by decide) h4
  obtain rfl : c = v' := by simpa using hcs
  obtain ⟨l, rfl, hl⟩ := exists_map (f := K.rc) (p := K.tw) xss (fun xs hxs => by
    obtain ⟨_, n, x, h⟩ := hx xs hxs
    obtain ⟨k, ty, m, a, b, s, rfl, hk, ht, hm, hx, hy, hs⟩ := openC_list h
    exact ⟨⟨k, ⟨ty, m, a, b, s⟩⟩, rfl, ⟨⟨hk.1, hs⟩, hm, hx, hy⟩⟩)
  obtain ⟨a, cap, rfl, hshape⟩ := hsl.shape (n := l.length) (by simp)
  exact ⟨l, a, cap, rfl, hsl, by simpa using hlen, hl⟩
theorem Lf.refsEw {c : Value} (h : Lf enc Tryz.prog w base spare held 31 c) : ∃ (l : List Rf) (a : Option Addr) (cap : Nat), c = .slice a l.length cap ∧ Sl w (.slice a l.length cap) 2 (l.map Rf.cells) ∧ l.length ≤ 9223372036854775807 ∧ ∀ r ∈ l, r.u32 := by
  obtain ⟨m, x, h4⟩ := h
  obtain ⟨v', xss, hcs, hsl, hlen, hx⟩ := trod_sl Tryz.underlying31 Tryz.cellsRefG (by decide) h4
  obtain rfl : c = v' := by simpa using hcs
  obtain ⟨l, rfl, hl⟩ := exists_map (f := Rf.cells) (p := Rf.u32) xss (fun xs hxs => by
    obtain ⟨_, n, x, h⟩ := hx xs hxs
    have hl := flat_open 4 _ _ n xs x Tryz.flatRefG h
    match xs, hl with
    | [c0, c1], ⟨l0, l1, _⟩ =>
      obtain ⟨c, rfl, g0⟩ := l0.int Tryz.underlying23
      obtain ⟨m, rfl, g1⟩ := l1.int Tryz.underlying23
      exact ⟨⟨c, m⟩, rfl, ⟨wfG_u32 g0, wfG_u32 g1⟩⟩)
  obtain ⟨a, cap, rfl, hshape⟩ := hsl.shape (n := l.length) (by simp)
  exact ⟨l, a, cap, rfl, hsl, by simpa using hlen, hl⟩
set_option maxRecDepth 20000 in
theorem openE_oneW {n : Nat} {cs : List Value} {x : DataW H × List MemPlace} (h : DataW.trod enc Tryz.prog w base spare held n 33 cs = some x) : ∃ p : EL, cs = p.vals ∧ p.at 6 K.rc w ∧ p.e.sz ∧ p.e.tw := by
  have hl := flat_open 4 _ _ n cs x Tryz.flatEv13 h
  match cs, hl with
  | [c0, c1, c2, c3, c4, c5, c6, c7], ⟨l0, l1, l2, l3, l4, l5, l6, l7, _⟩ =>
    obtain ⟨kind, rfl, h0⟩ := l0.int Tryz.underlying5
    obtain ⟨ao, rfl, h1⟩ := l1.int Tryz.underlying23
    obtain ⟨av, rfl, h2⟩ := l2.int Tryz.underlying23
    obtain ⟨old, rfl, h3⟩ := l3.int Tryz.underlying5
    obtain ⟨lb, ab, cb, rfl, b1, b2, b3⟩ := l4.rowEw
    obtain ⟨la, aa, ca, rfl, a1, a2, a3⟩ := l5.rowEw
    obtain ⟨lr, ar, cr, rfl, r1, r2, r3⟩ := l6.refsEw
    obtain ⟨fl, rfl, h7⟩ := l7.int Tryz.underlying5
    exact ⟨⟨⟨kind, ao, av, old, lb, la, lr, fl⟩, ab, cb, aa, ca, ar, cr⟩, rfl, ⟨b1, a1, r1⟩, ⟨b2, a2, r2, fun c hc => (b3 c hc).towk, fun c hc => (a3 c hc).towk, wfG_u8 h0, wfG_u8 h3, wfG_u8 h7⟩, ⟨b3, a3, r3, ⟨wfG_u32 h1, wfG_u32 h2⟩⟩⟩
end

end Go.Proofs.YtihldginolbooaaGreatDoor

/-
Messages of the arguments, opened: what is known of them.
-/
namespace Go.Proofs.YtihldginolbooaaGreatDoor
open Go.RowKit Go.ChangeShapes Go.WideShapes Go.ChangeAt

/-- What is known of a message's numbers. -/
structure ML.nums (p : ML) : Prop where
  k0 : 0 ≤ p.k
  k1 : p.k < 256
  x : B32 p.x
  st : 0 ≤ p.st
  st1 : p.st < 18446744073709551616
  n : B32 p.n
  o : B32 p.r.r.oid
  v : B32 p.r.r.ver
  id : 0 ≤ p.r.r.id ∧ p.r.r.id < 256
section
variable {H : Type} {enc : TypeId × Value → H} {w : World} {base : Nat} {spare : Nat → Bool} {held : Bool} {r : Reach} {base2 : Nat} {v : Value} {d : DataW H} {ps : List MemPlace}
set_option maxRecDepth 20000 in
theorem openR_id {n : Nat} {p : RR} {x : DataW H × List MemPlace} (h : DataW.trod enc Tryz.prog w base spare held n 29 p.cells = some x) : 0 ≤ p.r.id ∧ p.r.id < 256 := by
  have hl := flat_open 4 _ _ n _ x Tryz.flatRelG h
  obtain ⟨l0, l1, l2, l3, l4, _⟩ := hl
  obtain ⟨id, e3, h3⟩ := l3.int Tryz.underlying5
  cases e3
  exact wfG_u8 h3
theorem Tryz.cellsM1 : Tryz.prog.cellsOf 5 = 1 := by kernel_rfl
theorem Tryz.cellsM2 : Tryz.prog.cellsOf 23 = 1 := by kernel_rfl
theorem Tryz.cellsM3 : Tryz.prog.cellsOf 24 = 1 := by kernel_rfl
theorem Tryz.cellsM4 : Tryz.prog.cellsOf 29 = 5 := by kernel_rfl
theorem Tryz.cellsM5 : Tryz.prog.cellsOf 33 = 8 := by kernel_rfl
theorem Tryz.cellsM6 : Tryz.prog.cellsOf 35 = 17 := by kernel_rfl
set_option maxRecDepth 20000 in set_option maxHeartbeats 1000000 in
theorem openG_msg20 (h : DataW.Trod enc Tryz.prog w base spare held 35 v d ps) (hv : Value.okWide Tryz.prog w r base2 35 v) (hwt : ∀ q ∈ d.weights Tryz.prog 35, q ≤ reachBytes) :
    ∃ p : ML, v = p.agg ∧ p.at 6 K.rc w ∧ p.r.r.wb ∧ p.e.e.sz ∧ p.e.e.tw ∧ p.nums := by
  obtain ⟨⟨cs⟩, rfl, _⟩ := okWide_struct Tryz.underlying35 hv
  obtain ⟨n, hn⟩ := h
  obtain ⟨xs, m, e0, hx, hlen, hxl, hf⟩ := DataW.trod_struct Tryz.underlying35 hn
  rw [Tryz.cellsM6] at hlen
  have hlen : cs.length = 17 := hlen
  match cs, hlen with
  | [v0, v1, v2, v3, v4, v5, v6, v7, v8, v9, v10, v11, v12, v13, v14, v15, v16], _ =>
    have h0 : DataW.trod enc Tryz.prog w base spare held m 5 ((([v0, v1, v2, v3, v4, v5, v6, v7, v8, v9, v10, v11, v12, v13, v14, v15, v16] : List Value).drop 0).take (Tryz.prog.cellsOf 5)) = xs[0]? := (hf 0 _ rfl).trans rfl
    have h1 : DataW.trod enc Tryz.prog w base spare held m 23 ((([v0, v1, v2, v3, v4, v5, v6, v7, v8, v9, v10, v11, v12, v13, v14, v15, v16] : List Value).drop 1).take (Tryz.prog.cellsOf 23)) = xs[1]? := (hf 1 _ rfl).trans rfl
    have h2 : DataW.trod enc Tryz.prog w base spare held m 24 ((([v0, v1, v2, v3, v4, v5, v6, v7, v8, v9, v10, v11, v12, v13, v14, v15, v16] : List Value).drop 2).take (Tryz.prog.cellsOf 24)) = xs[2]? := (hf 2 _ rfl).trans rfl
    have h3 : DataW.trod enc Tryz.prog w base spare held m 23 ((([v0, v1, v2, v3, v4, v5, v6, v7, v8, v9, v10, v11, v12, v13, v14, v15, v16] : List Value).drop 3).take (Tryz.prog.cellsOf 23)) = xs[3]? := (hf 3 _ rfl).trans rfl
    have h4 : DataW.trod enc Tryz.prog w base spare held m 29 ((([v0, v1, v2, v3, v4, v5, v6, v7, v8, v9, v10, v11, v12, v13, v14, v15, v16] : List Value).drop 4).take (Tryz.prog.cellsOf 29)) = xs[4]? := (hf 4 _ rfl).trans rfl
    have h5 : DataW.trod enc Tryz.prog w base spare held m 33 ((([v0, v1, v2, v3, v4, v5, v6, v7, v8, v9, v10, v11, v12, v13, v14, v15, v16] : List Value).drop 9).take (Tryz.prog.cellsOf 33)) = xs[5]? := (hf 5 _ rfl).trans rfl
    rw [Tryz.cellsM1] at h0
    rw [Tryz.cellsM2] at h1 h3
    rw [Tryz.cellsM3] at h2
    rw [Tryz.cellsM4] at h4
    rw [Tryz.cellsM5] at h5
    simp only [List.drop_succ_cons, List.drop_zero, List.take_succ_cons, List.take_zero] at h0 h1 h2 h3 h4 h5
    match xs, hxl with
    | [x0, x1, x2, x3, x4, x5], _ =>
      obtain ⟨k, r0, q0, w0⟩ := DataW.trod_int Tryz.underlying5 (show DataW.trod enc Tryz.prog w base spare held m 5 [v0] = some x0 from h0)
      obtain ⟨x, r1, q1, w1⟩ := DataW.trod_int Tryz.underlying23 (show DataW.trod enc Tryz.prog w base spare held m 23 [v1] = some x1 from h1)
      obtain ⟨st, r2, q2, w2⟩ := DataW.trod_int Tryz.underlying24 (show DataW.trod enc Tryz.prog w base spare held m 24 [v2] = some x2 from h2)
      obtain ⟨n3, r3, q3, w3⟩ := DataW.trod_int Tryz.underlying23 (show DataW.trod enc Tryz.prog w base spare held m 23 [v3] = some x3 from h3)
      have h4 : DataW.trod enc Tryz.prog w base spare held m 29 [v4, v5, v6, v7, v8] = some x4 := h4
      have h5 : DataW.trod enc Tryz.prog w base spare held m 33 [v9, v10, v11, v12, v13, v14, v15, v16] = some x5 := h5
      have hx1 : d = _ := congrArg Prod.fst hx
      obtain ⟨p, hp1, hp2, hp3⟩ := openR_one h4 (fun q hq => by
        refine hwt q ?_
        rw [hx1]
        simp only [DataW.weights, Tryz.underlying35]
        exact DataW.weights_mem_each (j := 4) (t := 29) (d := x4.1) rfl rfl q hq)
      obtain ⟨y, hy1, hy2, hy3, hy4⟩ := openE_oneW h5
      have hb := openR_b32 (p := p) (hp1 ▸ h4)
      have hi := openR_id (p := p) (hp1 ▸ h4)
      simp only [List.cons.injEq, and_true] at r0 r1 r2 r3
      subst r0 r1 r2 r3
      simp only [RR.cells, List.cons.injEq, and_true] at hp1
      obtain ⟨rfl, rfl, rfl, rfl, rfl⟩ := hp1
      simp only [EL.vals, List.cons.injEq, and_true] at hy1
      obtain ⟨rfl, rfl, rfl, rfl, rfl, rfl, rfl, rfl⟩ := hy1
      exact ⟨⟨k, x, st, n3, p, y⟩, rfl, ⟨hp2, hy2⟩, hp3, hy3, hy4, ⟨(wfG_u8 w0).1, (wfG_u8 w0).2, wfG_u32 w1, (wfG_u64 w2).1, (wfG_u64 w2).2, wfG_u32 w3, hb.1, hb.2, hi⟩⟩
end

end Go.Proofs.YtihldginolbooaaGreatDoor

/-
The laws' own catalog of the arguments' relations; whether they make one.
-/
namespace Go.Proofs.YtihldginolbooaaGreatDoor
open Go.RowKit

set_option maxRecDepth 100000 in set_option maxHeartbeats 4000000 in
theorem in16_any (ps : List RR) (a : Option Addr) (cap : Nat) (w : World) (hl : RL w (.slice a ps.length cap) ps) (hb : ∀ p ∈ ps, p.r.wb) (hlen : ps.length ≤ 9223372036854775807) :
    Calls Tryz.prog 5 #[.slice a ps.length cap] w fun e w' => e = .returned (.bool (decide (ofE (ps.map RR.r) = 0))) ∧ Ext w w' := by
  have HRA := Hid.mk' (rof_any ps a cap w hl hb hlen)
  unfold ROfPost at HRA
  obtain ⟨EA, hEA⟩ : ∃ E, E = ofE (ps.map RR.r) := ⟨_, rfl⟩
  rw [← hEA] at HRA ⊢
  clear hl hb hlen hEA
  go_enter Tryz.func5, Tryz.ntmps5
  go_wp2_with (go_at_call 7; refine HRA.out.mono ?_; rintro e w1 ⟨aw, cw, n, rfl, -, -, hb1⟩; have HB1 := Hid.mk' hb1; clear hb1)
  simp [bodyPost, results, Tryz.results5, go_sem]
  exact ⟨by first | rfl | (rw [Bool.eq_iff_iff]; simp), HB1.out⟩

def Own16Post (ps : List RR) (w : World) (e : Ending) (w' : World) : Prop := ∃ g c qs, e = .returned (.pointer (some ⟨g, 0, none⟩)) ∧ w.heap.size ≤ g ∧ Ca w' g g c qs ∧ qs.map RR.r = ofUp (ps.map RR.r) ps.length ∧ Ext w w'
set_option maxRecDepth 100000 in set_option maxHeartbeats 4000000 in
theorem own16_any (ps : List RR) (a : Option Addr) (cap : Nat) (w : World) (hl : RL w (.slice a ps.length cap) ps) (hb : ∀ p ∈ ps, p.r.wb) (hlen : ps.length ≤ 1000) (h0 : ofE (ps.map RR.r) = 0) :
    Calls Tryz.prog 6 #[.slice a ps.length cap] w (Own16Post ps w) := by
  have HOA := Hid.mk' (own9_any ps a cap w hl hlen hb)
  have HB := Hid.mk' hb
  have HEA := Hid.mk' h0
  clear hl hb h0
  go_enter Tryz.func6, Tryz.ntmps6
  go_wp2_with (first
    | (go_at_call 21; refine HOA.out.mono ?_; rintro e w3 ⟨a2', c2', qs2, rfl, ho2, hb2⟩; have HB3 := Hid.mk' hb2; have HOF := Hid.mk' (cof_any qs2 a2' c2' w3 (by rw [ho2.len]; exact ho2.rl) ho2.cap (ho2.wb HB.out) (by rw [ho2.len]; exact hlen)); rw [ho2.rs, ho2.len] at HOF; unfold COfPost at HOF; rw [HEA.out] at HOF; clear ho2 hb2)
    | (go_at_call 20; refine HOF.out.mono ?_; rintro e w4 ⟨pv, rfl, h1, -, hb3⟩; obtain ⟨rfl, cc, qc, hcc, hqc⟩ := h1 (by first | exact rfl | exact trivial); have HCC := Hid.mk' hcc; have HQC := Hid.mk' hqc; have HB4 := Hid.mk' (HB3.out.trans hb3); clear h1 hcc hqc hb3))
  have hz : w.heap.size ≤ w3.heap.size := HB3.out.size
  simp [bodyPost, results, Tryz.results6, go_sem]
  exact ⟨_, cc, qc, rfl, hz, HCC.out, by rw [HQC.out, List.length_map], HB4.out⟩

end Go.Proofs.YtihldginolbooaaGreatDoor
