import Derived.SizedLaws
import Derived.Test.YtlobghojjfkchaaGreatP19

/-
A copy of an event; the refs that an event uses, the program's answer and the reference's.
-/
namespace Go.Proofs.YtlobghojjfkchaaGreat
open Go.RowKit

/-- All that it has is the call's own, from N on. -/
structure EL.owned (N : Nat) (W : World) (y : EL) : Prop where
  b : W.ownsRow N 195 5 (.slice y.ba y.e.b.length y.bc) y.e.b.length ((y.e.b.map K.pc).flatten)
  a : W.ownsRow N 195 5 (.slice y.aa y.e.a.length y.ac) y.e.a.length ((y.e.a.map K.pc).flatten)
  r : W.ownsRow N 45 2 (.slice y.ra y.e.rs.length y.rc) y.e.rs.length ((y.e.rs.map Rf.cells).flatten)
def usesE (e : Ev) : List Rf := if rowedB e.kind = true then [⟨e.ao, e.av⟩] else if e.kind = 7 then e.rs else []

/-- The refs that an event uses, each in a block of the call's own. -/
theorem one_owns {W : World} {N : Nat} (o v : Int) (hN : N ≤ W.heap.size) : (W.alloc (.cells #[.int .u32 o, .int .u32 v] 45)).ownsRow N 45 2 (.slice (some ⟨W.heap.size, 0, none⟩) 1 1) 1 ((([⟨o, v⟩] : List Rf).map Rf.cells).flatten) :=
  ⟨rfl, .inr ⟨W.heap.size, 1, #[.int .u32 o, .int .u32 v], rfl, hN, Blk.new W _ _, Nat.le_refl _, by unfold maxLen; omega, rfl, rfl⟩⟩

set_option maxRecDepth 100000 in set_option maxHeartbeats 4000000 in
theorem euses_any (x : EL) (w : World) (hx : x.at 5 K.pc w) (hs : x.e.small) :
    Calls Tryz.prog 17 #[x.agg] w fun e w' => ∃ (a' : Option Addr) (n c' : Nat), e = .returned (.slice a' n c') ∧ n = (usesE x.e).length ∧ w'.ownsRow w.heap.size 45 2 (.slice a' n c') n ((usesE x.e).map Rf.cells).flatten ∧ Ext w w' := by
  have HRW := Hid.mk' (fun W => rowed_any x W)
  obtain ⟨⟨k1, ao1, av1, old1, b1, a1, r1, fl1⟩, ba1, bc1, aa1, ac1, ra1, rc1⟩ := x
  have HCR := Hid.mk' (fun W (h : Ext w W) => clonef_any r1 ra1 rc1 W (hx.r.ext h) hs.r)
  unfold EL.agg at HRW ⊢
  simp only at HRW ⊢
  clear hx hs
  cases hr : rowedB k1 with
  | true =>
    have HU := Hid.mk' (show usesE ⟨k1, ao1, av1, old1, b1, a1, r1, fl1⟩ = [⟨ao1, av1⟩] from if_pos hr)
    rw [hr] at HRW
    clear hr
    go_enter Tryz.func17, Tryz.ntmps17
    go_wp2_with (go_at_call 56; refine (HRW.out _).mono ?_; rintro e w1 ⟨rfl, hb1⟩; (have hE_w1 : Ext (w.alloc (.cells #[.int .u8 k1, .int .u32 ao1, .int .u32 av1, .int .u8 old1, .slice ba1 b1.length bc1, .slice aa1 a1.length ac1, .slice ra1 r1.length rc1, .int .u8 fl1] 50)) w1 := (by exact eX); obtain ⟨hc_w1, hf_w1⟩ := hE_w1.cells; have hz_w1 := hE_w1.size); have HB1 := Hid.mk' hb1)
    go_ret
    refine ⟨_, _, _, rfl, by rw [HU.out]; rfl, ?_, by exact eX⟩
    rw [HU.out]
    exact one_owns ao1 av1 (by have := HB1.out.size; simp at this; omega)
  | false =>
    rw [hr] at HRW
    by_cases h7 : k1 = 7
    · have HU := Hid.mk' (show usesE ⟨k1, ao1, av1, old1, b1, a1, r1, fl1⟩ = r1 from (if_neg (by rw [hr]; simp)).trans (if_pos h7))
      have h7' : (k1 == 7) = true := by simpa using h7
      clear hr h7
      go_enter Tryz.func17, Tryz.ntmps17
      go_wp2_with (first
        | (go_at_call 56; refine (HRW.out _).mono ?_; rintro e w1 ⟨rfl, hb1⟩; (have hE_w1 : Ext (w.alloc (.cells #[.int .u8 k1, .int .u32 ao1, .int .u32 av1, .int .u8 old1, .slice ba1 b1.length bc1, .slice aa1 a1.length ac1, .slice ra1 r1.length rc1, .int .u8 fl1] 50)) w1 := (by exact eX); obtain ⟨hc_w1, hf_w1⟩ := hE_w1.cells; have hz_w1 := hE_w1.size); have HB1 := Hid.mk' hb1)
        | (go_at_call 57; refine (HCR.out _ (by exact eX)).mono ?_; rintro e w2 ⟨a', c', rfl, ho2, hb2⟩; have HO2 := Hid.mk' ho2; clear ho2))
      go_ret
      refine ⟨_, _, _, rfl, by rw [HU.out], ?_, by exact eX⟩
      rw [HU.out]
      exact owns_base HO2.out (by have := HB1.out.size; simp at this; omega)
    · have HU := Hid.mk' (show usesE ⟨k1, ao1, av1, old1, b1, a1, r1, fl1⟩ = [] from (if_neg (by rw [hr]; simp)).trans (if_neg h7))
      have h7' : (k1 == 7) = false := by simpa using h7
      clear hr h7
      go_enter Tryz.func17, Tryz.ntmps17
      go_wp2_with (go_at_call 56; refine (HRW.out _).mono ?_; rintro e w1 ⟨rfl, hb1⟩; (have hE_w1 : Ext (w.alloc (.cells #[.int .u8 k1, .int .u32 ao1, .int .u32 av1, .int .u8 old1, .slice ba1 b1.length bc1, .slice aa1 a1.length ac1, .slice ra1 r1.length rc1, .int .u8 fl1] 50)) w1 := (by exact eX); obtain ⟨hc_w1, hf_w1⟩ := hE_w1.cells; have hz_w1 := hE_w1.size))
      go_ret
      refine ⟨_, _, _, rfl, by rw [HU.out]; rfl, ?_, by exact eX⟩
      rw [HU.out]
      exact World.ownsRow_nil _ _ _ _

end Go.Proofs.YtlobghojjfkchaaGreat

/-
Relations of the arguments, opened: none has more columns than a slice may have.
-/
namespace Go.Proofs.YtlobghojjfkchaaGreat
open Go.RowKit Go.ChangeShapes Go.WideShapes Go.ChangeAt

section
variable {H : Type} {enc : TypeId × Value → H} {P : Program} {w : World} {base : Nat} {spare : Nat → Bool} {held : Bool}
theorem weightsAll_mem {e : TypeId} : ∀ {l : List (DataW H)} {d : DataW H}, d ∈ l → ∀ n ∈ d.weights P e, n ∈ DataW.weightsAll P e l
  | d' :: r, d, hd, n, hn => by
    simp only [DataW.weightsAll, List.mem_append]
    rcases List.mem_cons.1 hd with rfl | h
    · exact Or.inl hn
    · exact Or.inr (weightsAll_mem h n hn)
/-- A slice, opened: its elements' cells, what each reads as, and what it weighs. -/
theorem trod_slW {T E : TypeId} {k n : Nat} {cs : List Value} {x : DataW H × List MemPlace} (ht : P.underlying T = some (.slice E)) (hk : P.cellsOf E = k) (hk0 : 0 < k) (h : DataW.trod enc P w base spare held n T cs = some x) :
    ∃ v xss, cs = [v] ∧ Sl w v k xss ∧ xss.length ≤ 9223372036854775807 ∧ (xss = [] ∨ ∃ q ∈ x.1.weights P T, xss.length * P.bytesOf E ≤ q) ∧ ∀ xs ∈ xss, xs.length = k ∧ ∃ n y, DataW.trod enc P w base spare held n E xs = some y ∧ ∀ q ∈ y.1.weights P E, q ∈ x.1.weights P T := by
  rcases Go.Deep.open_slice ht h with ⟨rfl, rfl⟩ | ⟨a, len, cap, m, q, D, Pl, rfl, hb, hl, hm, hmm, hxx, hx⟩
  · exact ⟨_, [], rfl, ⟨none, 0, rfl, .inl rfl⟩, by simp, .inl rfl, by simp⟩
  · have hlm : len ≤ m := by rw [hmm]; split <;> omega
    have hw : ∀ i, i < len → ∀ q ∈ (D i).weights P E, q ∈ x.1.weights P T := fun i hi q hq => by
      rw [hxx]
      simp only [DataW.weights, ht, List.mem_cons, List.mem_append]
      exact .inr (.inl (weightsAll_mem (List.mem_map.2 ⟨i, List.mem_range.2 hi, rfl⟩) q hq))
    have hall : ∀ i, i < len → ∃ cs', w.cells? base (a.add (i * k)) k = some cs' ∧ DataW.trod enc P w base spare held q E cs' = some (D i, Pl i) := fun i hi => by
      have := hx i (by omega); rwa [hk] at this
    obtain ⟨C, hC⟩ := Go.Deep.choose_lt hall
    have hcl : cap ≤ 9223372036854775807 := hm
    refine ⟨_, (List.range len).map C, rfl, ?_, by simp; omega, .inr ⟨(len + (m - len)) * P.bytesOf E, ?_, ?_⟩, ?_⟩
    · refine ⟨some a, cap, by simp, ?_⟩
      by_cases h0 : len = 0
      · subst h0; exact .inl rfl
      · right
        have hc0 := (World.cells?_some (hC 0 (by omega)).1)
        have e0 : (a.add (0 * k)).add 0 = a := by unfold Addr.add; simp
        have hcell : (w.cell? a).isSome = true := by
          have := hc0.2.2 0 hk0
          rw [e0] at this
          rw [this, List.getElem?_eq_getElem (by omega)]; rfl
        have hsp : a.spot = none := by
          unfold World.cell? at hcell
          split at hcell
          · split at hcell
            · simp at hcell
            · rename_i hs; simpa using hs
          · simp at hcell
        have hlt : a.block < w.heap.size := by
          unfold World.cell? at hcell
          rcases Nat.lt_or_ge a.block w.heap.size with h1 | h1
          · exact h1
          · rw [Array.getElem?_eq_none h1] at hcell; simp at hcell
        refine ⟨a.block, a.off, by cases a; simp at hsp; subst hsp; rfl, hlt, ?_⟩
        intro i hi j hj
        simp only [List.length_map, List.length_range] at hi
        have h2 := (World.cells?_some (hC i hi).1).2.2 j hj
        rw [Go.Deep.add_add] at h2
        have e : a.add (i * k + j) = ⟨a.block, a.off + i * k + j, none⟩ := by
          unfold Addr.add
          split
          · rename_i hz
            have h3 : i * k = 0 := by omega
            have h4 : j = 0 := by omega
            cases a; simp at hsp; subst hsp; simp [h3, h4]
          · cases a; simp at hsp; subst hsp; simp
        rw [e] at h2
        rw [h2]
        simp [hi]
    · rw [hxx]
      simp only [DataW.weights, ht, List.mem_cons, List.length_map, List.length_range, true_or]
    · rw [List.length_map, List.length_range]
      exact Nat.mul_le_mul_right _ (by omega)
    · intro xs hxs
      simp only [List.mem_map, List.mem_range] at hxs
      obtain ⟨i, hi, rfl⟩ := hxs
      exact ⟨(World.cells?_some (hC i hi).1).2.1, _, _, (hC i hi).2, hw i hi⟩
end

theorem Tryz.cellsRelG : Tryz.prog.cellsOf 101 = 5 := by kernel_rfl
theorem Tryz.cellsColsG : Tryz.prog.cellsOf 99 = 1 := by kernel_rfl
theorem Tryz.bytesColG : Tryz.prog.bytesOf 171 = 24 := by kernel_rfl
section
variable {H : Type} {enc : TypeId × Value → H} {w : World} {base : Nat} {spare : Nat → Bool} {held : Bool} {r : Reach} {base2 : Nat} {v : Value} {d : DataW H} {ps : List MemPlace}
set_option maxRecDepth 20000 in
theorem openR_one {n : Nat} {cs : List Value} {x : DataW H × List MemPlace} (h : DataW.trod enc Tryz.prog w base spare held n 101 cs = some x) (hwt : ∀ q ∈ x.1.weights Tryz.prog 101, q ≤ reachBytes) :
    ∃ p : RR, cs = p.cells ∧ p.in w ∧ p.r.wb := by
  have hl := flat_open 4 _ _ n cs x Tryz.flatRelG h
  obtain ⟨xs, m, _, rfl, hlen, hxl, hf⟩ := DataW.trod_struct Tryz.underlying101 h
  match cs, hl with
  | [c0, c1, c2, c3, c4], ⟨l0, l1, l2, l3, l4, _⟩ =>
    obtain ⟨oid, rfl, h0⟩ := l0.int Tryz.underlying23
    obtain ⟨ver, rfl, h1⟩ := l1.int Tryz.underlying23
    obtain ⟨nm, rfl, h2⟩ := l2.string Tryz.underlying9
    obtain ⟨id, rfl, h3⟩ := l3.int Tryz.underlying5
    have h4 : DataW.trod enc Tryz.prog w base spare held m 99 ((([Value.int .u32 oid, .int .u32 ver, .string nm, .int .u8 id, c4] : List Value).drop 4).take (Tryz.prog.cellsOf 99)) = xs[3]? := (hf 3 _ rfl).trans rfl
    rw [Tryz.cellsColsG] at h4
    simp only [List.drop_succ_cons, List.drop_zero, List.take_succ_cons, List.take_zero] at h4
    have h3l : 3 < xs.length := by rw [hxl]; decide
    rw [List.getElem?_eq_getElem h3l] at h4
    have hwt2 : ∀ q ∈ (xs[3]).1.weights Tryz.prog 99, q ≤ reachBytes := fun q hq => by
      refine hwt q ?_
      simp only [DataW.weights, Tryz.underlying101]
      refine DataW.weights_mem_each (j := 3) (t := 99) (d := (xs[3]).1) rfl (by rw [List.getElem?_map, List.getElem?_eq_getElem h3l]; rfl) q hq
    obtain ⟨v', xss, hcs, hsl, hlen2, hw2, hx⟩ := trod_slW Tryz.underlying99 Tryz.cellsColG (by decide) h4
    obtain rfl : c4 = v' := by simpa using hcs
    obtain ⟨cols, rfl, hcl⟩ := exists_map (f := Col.cells) (p := fun c => c.nm.size ≤ 9223372036854775807) xss (fun xs hxs => by
      obtain ⟨_, n, x, h, _⟩ := hx xs hxs
      have hl := flat_open 4 _ _ n xs x Tryz.flatColG h
      match xs, hl with
      | [d0, d1, d2], ⟨m0, m1, m2, _⟩ =>
        obtain ⟨s, rfl, hs⟩ := m0.string Tryz.underlying9
        obtain ⟨ty, rfl, _⟩ := m1.int Tryz.underlying5
        obtain ⟨b, rfl⟩ := m2.bool Tryz.underlying4
        exact ⟨⟨s, ty, b⟩, rfl, hs⟩)
    obtain ⟨a, cap, rfl, hshape⟩ := hsl.shape (n := cols.length) (by simp)
    refine ⟨⟨⟨oid, ver, nm, id, cols⟩, a, cap⟩, rfl, hsl, ⟨h2, hcl, ?_, (wfG_u8 h3).1⟩⟩
    rcases hw2 with h0 | ⟨q, hq, hle⟩
    · have : cols = [] := by simpa using h0
      simp [this]
    · have h5 := hwt2 q hq
      rw [Tryz.bytesColG, List.length_map] at hle
      have h6 : reachBytes = 140737488351232 := rfl
      show cols.length ≤ 5864062014634
      omega
set_option maxRecDepth 20000 in
theorem openG_rels (h : DataW.Trod enc Tryz.prog w base spare held 22 v d ps) (hv : Value.okWide Tryz.prog w r base2 22 v) (hwt : ∀ q ∈ d.weights Tryz.prog 22, q ≤ reachBytes) :
    ∃ (l : List RR) (a : Option Addr) (cap : Nat), v = .slice a l.length cap ∧ RL w (.slice a l.length cap) l ∧ l.length ≤ 9223372036854775807 ∧ ∀ p ∈ l, p.r.wb := by
  obtain ⟨a, len, cap, rfl⟩ := okWide_slice Tryz.underlying22 hv
  obtain ⟨n, hn⟩ := h
  obtain ⟨v', xss, hcs, hsl, hlen, _, hx⟩ := trod_slW Tryz.underlying22 Tryz.cellsRelG (by decide) hn
  have e : v' = .slice a len cap := by simpa [Value.cells] using hcs.symm
  obtain ⟨l, rfl, hl⟩ := exists_map (f := RR.cells) (p := fun p => p.in w ∧ p.r.wb) xss (fun xs hxs => by
    obtain ⟨_, n, y, h, hq⟩ := hx xs hxs
    exact openR_one h (fun q hm => hwt q (hq q hm)))
  rw [e] at hsl
  obtain ⟨a', cap', he, hshape⟩ := hsl.shape (n := l.length) (by simp)
  simp only [Value.slice.injEq] at he
  obtain ⟨rfl, rfl, rfl⟩ := he
  exact ⟨l, a, cap, rfl, ⟨hsl, fun p hp => (hl p hp).1⟩, by simpa using hlen, fun p hp => (hl p hp).2⟩
theorem Tryz.flatRefG : flat Tryz.prog 4 25 = some [23, 23] := by kernel_rfl
theorem Tryz.cellsRefG : Tryz.prog.cellsOf 25 = 2 := by kernel_rfl
end

end Go.Proofs.YtlobghojjfkchaaGreat

/-
Events and transactions of the arguments, opened.
-/
namespace Go.Proofs.YtlobghojjfkchaaGreat
open Go.RowKit Go.ChangeShapes Go.WideShapes Go.ChangeAt

theorem Tryz.flatEv13 : flat Tryz.prog 4 29 = some [5, 23, 23, 5, 26, 26, 27, 5] := by kernel_rfl
section
variable {H : Type} {enc : TypeId × Value → H} {w : World} {base : Nat} {spare : Nat → Bool} {held : Bool} {r : Reach} {base2 : Nat} {v : Value} {d : DataW H} {ps : List MemPlace}
theorem EL.agg_of {cs : Array Value} {p : EL} (h : cs.toList = p.vals) : Value.agg cs = p.agg := by
  unfold EL.agg
  rw [show cs = #[.int .u8 p.e.kind, .int .u32 p.e.ao, .int .u32 p.e.av, .int .u8 p.e.old, .slice p.ba p.e.b.length p.bc, .slice p.aa p.e.a.length p.ac, .slice p.ra p.e.rs.length p.rc, .int .u8 p.e.fl] from Array.toList_inj.1 h]
end

end Go.Proofs.YtlobghojjfkchaaGreat

/-
Events of the arguments, opened: what each number is within.
-/
namespace Go.Proofs.YtlobghojjfkchaaGreat
open Go.RowKit Go.ChangeShapes Go.WideShapes Go.ChangeAt

section
variable {H : Type} {enc : TypeId × Value → H} {w : World} {base : Nat} {spare : Nat → Bool} {held : Bool} {r : Reach} {base2 : Nat} {v : Value} {d : DataW H} {ps : List MemPlace}
theorem Lf.rowEw {c : Value} (h : Lf enc Tryz.prog w base spare held 26 c) : ∃ (l : List K) (a : Option Addr) (cap : Nat), c = .slice a l.length cap ∧ Sl w (.slice a l.length cap) 6 (l.map K.rc) ∧ l.length ≤ 9223372036854775807 ∧ ∀ c ∈ l, c.tw := by
  obtain ⟨m, x, h4⟩ := h
  obtain ⟨v', xss, hcs, hsl, hlen, hx⟩ := trod_sl Tryz.underlying26 Tryz.cellsCellG (by decide) h4
  obtain rfl : c = v' := by simpa using hcs
  obtain ⟨l, rfl, hl⟩ := exists_map (f := K.rc) (p := K.tw) xss (fun xs hxs => by
    obtain ⟨_, n, x, h⟩ := hx xs hxs
    obtain ⟨k, ty, m, a, b, s, rfl, hk, ht, hm, hx, hy, hs⟩ := openC_list h
    exact ⟨⟨k, ⟨ty, m, a, b, s⟩⟩, rfl, ⟨⟨hk.1, hs⟩, hm, hx, hy⟩⟩)
  obtain ⟨a, cap, rfl, hshape⟩ := hsl.shape (n := l.length) (by simp)
  exact ⟨l, a, cap, rfl, hsl, by simpa using hlen, hl⟩
theorem Lf.refsEw {c : Value} (h : Lf enc Tryz.prog w base spare held 27 c) : ∃ (l : List Rf) (a : Option Addr) (cap : Nat), c = .slice a l.length cap ∧ Sl w (.slice a l.length cap) 2 (l.map Rf.cells) ∧ l.length ≤ 9223372036854775807 ∧ ∀ r ∈ l, r.u32 := by
  obtain ⟨m, x, h4⟩ := h
  obtain ⟨v', xss, hcs, hsl, hlen, hx⟩ := trod_sl Tryz.underlying27 Tryz.cellsRefG (by decide) h4
  obtain rfl : c = v' := by simpa using hcs
  obtain ⟨l, rfl, hl⟩ := exists_map (f := Rf.cells) (p := Rf.u32) xss (fun xs hxs => by
    obtain ⟨_, n, x, h⟩ := hx xs hxs
    have hl := flat_open 4 _ _ n xs x Tryz.flatRefG h
    match xs, hl with
    | [c0, c1], ⟨l0, l1, _⟩ =>
      obtain ⟨c, rfl, g0⟩ := l0.int Tryz.underlying23
      obtain ⟨m, rfl, g1⟩ := l1.int Tryz.underlying23
      exact ⟨⟨c, m⟩, rfl, ⟨wfG_u32 g0, wfG_u32 g1⟩⟩)
  obtain ⟨a, cap, rfl, hshape⟩ := hsl.shape (n := l.length) (by simp)
  exact ⟨l, a, cap, rfl, hsl, by simpa using hlen, hl⟩
set_option maxRecDepth 20000 in
theorem openE_oneW {n : Nat} {cs : List Value} {x : DataW H × List MemPlace} (h : DataW.trod enc Tryz.prog w base spare held n 29 cs = some x) : ∃ p : EL, cs = p.vals ∧ p.at 6 K.rc w ∧ p.e.sz ∧ p.e.tw := by
  have hl := flat_open 4 _ _ n cs x Tryz.flatEv13 h
  match cs, hl with
  | [c0, c1, c2, c3, c4, c5, c6, c7], ⟨l0, l1, l2, l3, l4, l5, l6, l7, _⟩ =>
    obtain ⟨kind, rfl, h0⟩ := l0.int Tryz.underlying5
    obtain ⟨ao, rfl, h1⟩ := l1.int Tryz.underlying23
    obtain ⟨av, rfl, h2⟩ := l2.int Tryz.underlying23
    obtain ⟨old, rfl, h3⟩ := l3.int Tryz.underlying5
    obtain ⟨lb, ab, cb, rfl, b1, b2, b3⟩ := l4.rowEw
    obtain ⟨la, aa, ca, rfl, a1, a2, a3⟩ := l5.rowEw
    obtain ⟨lr, ar, cr, rfl, r1, r2, r3⟩ := l6.refsEw
    obtain ⟨fl, rfl, h7⟩ := l7.int Tryz.underlying5
    exact ⟨⟨⟨kind, ao, av, old, lb, la, lr, fl⟩, ab, cb, aa, ca, ar, cr⟩, rfl, ⟨b1, a1, r1⟩, ⟨b2, a2, r2, fun c hc => (b3 c hc).towk, fun c hc => (a3 c hc).towk, wfG_u8 h0, wfG_u8 h3, wfG_u8 h7⟩, ⟨b3, a3, r3, ⟨wfG_u32 h1, wfG_u32 h2⟩⟩⟩
set_option maxRecDepth 20000 in
theorem openG_ev13w (h : DataW.Trod enc Tryz.prog w base spare held 29 v d ps) (hv : Value.okWide Tryz.prog w r base2 29 v) : ∃ p : EL, v = p.agg ∧ p.at 6 K.rc w ∧ p.e.sz ∧ p.e.tw := by
  obtain ⟨cs, rfl, _⟩ := okWide_struct Tryz.underlying29 hv
  obtain ⟨n, hn⟩ := h
  obtain ⟨p, h1, h2, h3⟩ := openE_oneW hn
  exact ⟨p, EL.agg_of h1, h2, h3⟩
end

end Go.Proofs.YtlobghojjfkchaaGreat
