/-
Relations of the arguments, opened: none has more columns than a slice may have.
-/
import Derived.SizedLaws
import Derived.Test.YtdlhaidlokkmnaaGreatDoorP28
import Derived.Test.YtdlhaidlokkmnaaGreatDoorP5
import Derived.Test.YtdlhaidlokkmnaaGreatDoorP23
import Derived.Test.YtdlhaidlokkmnaaGreatDoorP27
import Derived.Test.YtdlhaidlokkmnaaGreatDoorP26
set_option maxRecDepth 100000
set_option maxHeartbeats 16000000
namespace Go.Proofs.YtdlhaidlokkmnaaGreatDoor
open Go.RowKit Go.ChangeShapes Go.WideShapes Go.ChangeAt
section
variable {H : Type} {enc : TypeId × Value → H} {P : Program} {w : World} {base : Nat} {spare : Nat → Bool} {held : Bool}
theorem weightsAll_mem {e : TypeId} : ∀ {l : List (DataW H)} {d : DataW H}, d ∈ l → ∀ n ∈ d.weights P e, n ∈ DataW.weightsAll P e l
  | d' :: r, d, hd, n, hn => by
    simp only [DataW.weightsAll, List.mem_append]
    rcases List.mem_cons.1 hd with rfl | h
    · exact Or.inl hn
    · exact Or.inr (weightsAll_mem h n hn)
theorem trod_slW {T E : TypeId} {k n : Nat} {cs : List Value} {x : DataW H × List MemPlace} (ht : P.underlying T = some (.slice E)) (hk : P.cellsOf E = k) (hk0 : 0 < k) (h : DataW.trod enc P w base spare held n T cs = some x) :
    ∃ v xss, cs = [v] ∧ Sl w v k xss ∧ xss.length ≤ 9223372036854775807 ∧ (xss = [] ∨ ∃ q ∈ x.1.weights P T, xss.length * P.bytesOf E ≤ q) ∧ ∀ xs ∈ xss, xs.length = k ∧ ∃ n y, DataW.trod enc P w base spare held n E xs = some y ∧ ∀ q ∈ y.1.weights P E, q ∈ x.1.weights P T := by
  rcases Go.Deep.open_slice ht h with ⟨rfl, rfl⟩ | ⟨a, len, cap, m, q, D, Pl, rfl, hb, hl, hm, hmm, hxx, hx⟩
  · exact ⟨_, [], rfl, ⟨none, 0, rfl, .inl rfl⟩, by simp, .inl rfl, by simp⟩
  · have hlm : len ≤ m := by rw [hmm]; split <;> omega
    have hw : ∀ i, i < len → ∀ q ∈ (D i).weights P E, q ∈ x.1.weights P T := fun i hi q hq => by
      rw [hxx]
      simp only [DataW.weights, ht, List.mem_cons, List.mem_append]
      exact .inr (.inl (weightsAll_mem (List.mem_map.2 ⟨i, List.mem_range.2 hi, rfl⟩) q hq))
    have hall : ∀ i, i < len → ∃ cs', w.cells? base (a.add (i * k)) k = some cs' ∧ DataW.trod enc P w base spare held q E cs' = some (D i, Pl i) := fun i hi => by
      have := hx i (by omega); rwa [hk] at this
    obtain ⟨C, hC⟩ := Go.Deep.choose_lt hall
    have hcl : cap ≤ 9223372036854775807 := hm
    refine ⟨_, (List.range len).map C, rfl, ?_, by simp; omega, .inr ⟨(len + (m - len)) * P.bytesOf E, ?_, ?_⟩, ?_⟩
    · refine ⟨some a, cap, by simp, ?_⟩
      by_cases h0 : len = 0
      · subst h0; exact .inl rfl
      · right
        have hc0 := (World.cells?_some (hC 0 (by omega)).1)
        have e0 : (a.add (0 * k)).add 0 = a := by unfold Addr.add; simp
        have hcell : (w.cell? a).isSome = true := by
          have := hc0.2.2 0 hk0
          rw [e0] at this
          rw [this, List.getElem?_eq_getElem (by omega)]; rfl
        have hsp : a.spot = none := by
          unfold World.cell? at hcell
          split at hcell
          · split at hcell
            · simp at hcell
            · rename_i hs; simpa using hs
          · simp at hcell
        have hlt : a.block < w.heap.size := by
          unfold World.cell? at hcell
          rcases Nat.lt_or_ge a.block w.heap.size with h1 | h1
          · exact h1
          · rw [Array.getElem?_eq_none h1] at hcell; simp at hcell
        refine ⟨a.block, a.off, by cases a; simp at hsp; subst hsp; rfl, hlt, ?_⟩
        intro i hi j hj
        simp only [List.length_map, List.length_range] at hi
        have h2 := (World.cells?_some (hC i hi).1).2.2 j hj
        rw [Go.Deep.add_add] at h2
        have e : a.add (i * k + j) = ⟨a.block, a.off + i * k + j, none⟩ := by
          unfold Addr.add
          split
          · rename_i hz
            have h3 : i * k = 0 := by omega
            have h4 : j = 0 := by omega
            cases a; simp at hsp; subst hsp; simp [h3, h4]
          · cases a; simp at hsp; subst hsp; simp
        rw [e] at h2
        rw [h2]
        simp [hi]
    · rw [hxx]
      simp only [DataW.weights, ht, List.mem_cons, List.length_map, List.length_range, true_or]
    · rw [List.length_map, List.length_range]
      exact Nat.mul_le_mul_right _ (by omega)
    · intro xs hxs
      simp only [List.mem_map, List.mem_range] at hxs
      obtain ⟨i, hi, rfl⟩ := hxs
      exact ⟨(World.cells?_some (hC i hi).1).2.1, _, _, (hC i hi).2, hw i hi⟩
end
theorem Tryz.cellsRelG : Tryz.prog.cellsOf 55 = 5 := by kernel_rfl
theorem Tryz.cellsColsG : Tryz.prog.cellsOf 53 = 1 := by kernel_rfl
theorem Tryz.bytesColG : Tryz.prog.bytesOf 99 = 24 := by kernel_rfl
section
variable {H : Type} {enc : TypeId × Value → H} {w : World} {base : Nat} {spare : Nat → Bool} {held : Bool} {r : Reach} {base2 : Nat} {v : Value} {d : DataW H} {ps : List MemPlace}
theorem openR_one {n : Nat} {cs : List Value} {x : DataW H × List MemPlace} (h : DataW.trod enc Tryz.prog w base spare held n 55 cs = some x) (hwt : ∀ q ∈ x.1.weights Tryz.prog 55, q ≤ reachBytes) :
    ∃ p : RR, cs = p.cells ∧ p.in w ∧ p.r.wb := by
  have hl := flat_open 4 _ _ n cs x Tryz.flatRelG h
  obtain ⟨xs, m, _, rfl, hlen, hxl, hf⟩ := DataW.trod_struct Tryz.underlying55 h
  match cs, hl with
  | [c0, c1, c2, c3, c4], ⟨l0, l1, l2, l3, l4, _⟩ =>
    obtain ⟨oid, rfl, h0⟩ := l0.int Tryz.underlying41
    obtain ⟨ver, rfl, h1⟩ := l1.int Tryz.underlying41
    obtain ⟨nm, rfl, h2⟩ := l2.string Tryz.underlying9
    obtain ⟨id, rfl, h3⟩ := l3.int Tryz.underlying5
    have h4 : DataW.trod enc Tryz.prog w base spare held m 53 ((([Value.int .u32 oid, .int .u32 ver, .string nm, .int .u8 id, c4] : List Value).drop 4).take (Tryz.prog.cellsOf 53)) = xs[3]? := (hf 3 _ rfl).trans rfl
    rw [Tryz.cellsColsG] at h4
    simp only [List.drop_succ_cons, List.drop_zero, List.take_succ_cons, List.take_zero] at h4
    have h3l : 3 < xs.length := by rw [hxl]; decide
    rw [List.getElem?_eq_getElem h3l] at h4
    have hwt2 : ∀ q ∈ (xs[3]).1.weights Tryz.prog 53, q ≤ reachBytes := fun q hq => by
      refine hwt q ?_
      simp only [DataW.weights, Tryz.underlying55]
      refine DataW.weights_mem_each (j := 3) (t := 53) (d := (xs[3]).1) rfl (by rw [List.getElem?_map, List.getElem?_eq_getElem h3l]; rfl) q hq
    obtain ⟨v', xss, hcs, hsl, hlen2, hw2, hx⟩ := trod_slW Tryz.underlying53 Tryz.cellsColG (by decide) h4
    obtain rfl : c4 = v' := by simpa using hcs
    obtain ⟨cols, rfl, hcl⟩ := exists_map (f := Col.cells) (p := fun c => c.nm.size ≤ 9223372036854775807) xss (fun xs hxs => by
      obtain ⟨_, n, x, h, _⟩ := hx xs hxs
      have hl := flat_open 4 _ _ n xs x Tryz.flatColG h
      match xs, hl with
      | [d0, d1, d2], ⟨m0, m1, m2, _⟩ =>
        obtain ⟨s, rfl, hs⟩ := m0.string Tryz.underlying9
        obtain ⟨ty, rfl, _⟩ := m1.int Tryz.underlying5
        obtain ⟨b, rfl⟩ := m2.bool Tryz.underlying4
        exact ⟨⟨s, ty, b⟩, rfl, hs⟩)
    obtain ⟨a, cap, rfl, hshape⟩ := hsl.shape (n := cols.length) (by simp)
    refine ⟨⟨⟨oid, ver, nm, id, cols⟩, a, cap⟩, rfl, hsl, ⟨h2, hcl, ?_, (wfG_u8 h3).1⟩⟩
    rcases hw2 with h0 | ⟨q, hq, hle⟩
    · have : cols = [] := by simpa using h0
      simp [this]
    · have h5 := hwt2 q hq
      rw [Tryz.bytesColG, List.length_map] at hle
      have h6 : reachBytes = 140737488351232 := rfl
      show cols.length ≤ 5864062014634
      omega
theorem Tryz.flatRefG : flat Tryz.prog 4 47 = some [41, 41] := by kernel_rfl
theorem Tryz.cellsRefG : Tryz.prog.cellsOf 47 = 2 := by kernel_rfl
end
end Go.Proofs.YtdlhaidlokkmnaaGreatDoor
namespace Go.Proofs.YtdlhaidlokkmnaaGreatDoor
open Go.RowKit Go.ChangeShapes Go.WideShapes Go.ChangeAt
theorem Tryz.flatEv13 : flat Tryz.prog 4 51 = some [5, 41, 41, 5, 48, 48, 49, 5] := by kernel_rfl
theorem Tryz.cellsEv13 : Tryz.prog.cellsOf 51 = 8 := by kernel_rfl
theorem Tryz.cellsTx13 : Tryz.prog.cellsOf 45 = 3 := by kernel_rfl
theorem Tryz.cellsSEv13 : Tryz.prog.cellsOf 43 = 1 := by kernel_rfl
theorem Tryz.cellsU32E : Tryz.prog.cellsOf 41 = 1 := by kernel_rfl
theorem Tryz.cellsU64E : Tryz.prog.cellsOf 42 = 1 := by kernel_rfl
theorem Tryz.bytesEv13 : Tryz.prog.bytesOf 51 = 96 := by kernel_rfl
section
variable {H : Type} {enc : TypeId × Value → H} {w : World} {base : Nat} {spare : Nat → Bool} {held : Bool} {r : Reach} {base2 : Nat} {v : Value} {d : DataW H} {ps : List MemPlace}
end
end Go.Proofs.YtdlhaidlokkmnaaGreatDoor
namespace Go.Proofs.YtdlhaidlokkmnaaGreatDoor
open Go.RowKit Go.ChangeShapes Go.WideShapes Go.ChangeAt
section
variable {H : Type} {enc : TypeId × Value → H} {w : World} {base : Nat} {spare : Nat → Bool} {held : Bool} {r : Reach} {base2 : Nat} {v : Value} {d : DataW H} {ps : List MemPlace}
theorem Lf.rowEw {c : Value} (h : Lf enc Tryz.prog w base spare held 48 c) : ∃ (l : List K) (a : Option Addr) (cap : Nat), c = .slice a l.length cap ∧ Sl w (.slice a l.length cap) 6 (l.map K.rc) ∧ l.length ≤ 9223372036854775807 ∧ ∀ c ∈ l, c.tw := by
  obtain ⟨m, x, h4⟩ := h
  obtain ⟨v', xss, hcs, hsl, hlen, hx⟩ := trod_sl Tryz.underlying48 Tryz.cellsCellG (by decide) h4
  obtain rfl : c = v' := by simpa using hcs
  obtain ⟨l, rfl, hl⟩ := exists_map (f := K.rc) (p := K.tw) xss (fun xs hxs => by
    obtain ⟨_, n, x, h⟩ := hx xs hxs
    obtain ⟨k, ty, m, a, b, s, rfl, hk, ht, hm, hx, hy, hs⟩ := openC_list h
    exact ⟨⟨k, ⟨ty, m, a, b, s⟩⟩, rfl, ⟨⟨hk.1, hs⟩, hm, hx, hy⟩⟩)
  obtain ⟨a, cap, rfl, hshape⟩ := hsl.shape (n := l.length) (by simp)
  exact ⟨l, a, cap, rfl, hsl, by simpa using hlen, hl⟩
theorem Lf.refsEw {c : Value} (h : Lf enc Tryz.prog w base spare held 49 c) : ∃ (l : List Rf) (a : Option Addr) (cap : Nat), c = .slice a l.length cap ∧ Sl w (.slice a l.length cap) 2 (l.map Rf.cells) ∧ l.length ≤ 9223372036854775807 ∧ ∀ r ∈ l, r.u32 := by
  obtain ⟨m, x, h4⟩ := h
  obtain ⟨v', xss, hcs, hsl, hlen, hx⟩ := trod_sl Tryz.underlying49 Tryz.cellsRefG (by decide) h4
  obtain rfl : c = v' := by simpa using hcs
  obtain ⟨l, rfl, hl⟩ := exists_map (f := Rf.cells) (p := Rf.u32) xss (fun xs hxs => by
    obtain ⟨_, n, x, h⟩ := hx xs hxs
    have hl := flat_open 4 _ _ n xs x Tryz.flatRefG h
    match xs, hl with
    | [c0, c1], ⟨l0, l1, _⟩ =>
      obtain ⟨c, rfl, g0⟩ := l0.int Tryz.underlying41
      obtain ⟨m, rfl, g1⟩ := l1.int Tryz.underlying41
      exact ⟨⟨c, m⟩, rfl, ⟨wfG_u32 g0, wfG_u32 g1⟩⟩)
  obtain ⟨a, cap, rfl, hshape⟩ := hsl.shape (n := l.length) (by simp)
  exact ⟨l, a, cap, rfl, hsl, by simpa using hlen, hl⟩
theorem openE_oneW {n : Nat} {cs : List Value} {x : DataW H × List MemPlace} (h : DataW.trod enc Tryz.prog w base spare held n 51 cs = some x) : ∃ p : EL, cs = p.vals ∧ p.at 6 K.rc w ∧ p.e.sz ∧ p.e.tw := by
  have hl := flat_open 4 _ _ n cs x Tryz.flatEv13 h
  match cs, hl with
  | [c0, c1, c2, c3, c4, c5, c6, c7], ⟨l0, l1, l2, l3, l4, l5, l6, l7, _⟩ =>
    obtain ⟨kind, rfl, h0⟩ := l0.int Tryz.underlying5
    obtain ⟨ao, rfl, h1⟩ := l1.int Tryz.underlying41
    obtain ⟨av, rfl, h2⟩ := l2.int Tryz.underlying41
    obtain ⟨old, rfl, h3⟩ := l3.int Tryz.underlying5
    obtain ⟨lb, ab, cb, rfl, b1, b2, b3⟩ := l4.rowEw
    obtain ⟨la, aa, ca, rfl, a1, a2, a3⟩ := l5.rowEw
    obtain ⟨lr, ar, cr, rfl, r1, r2, r3⟩ := l6.refsEw
    obtain ⟨fl, rfl, h7⟩ := l7.int Tryz.underlying5
    exact ⟨⟨⟨kind, ao, av, old, lb, la, lr, fl⟩, ab, cb, aa, ca, ar, cr⟩, rfl, ⟨b1, a1, r1⟩, ⟨b2, a2, r2, fun c hc => (b3 c hc).towk, fun c hc => (a3 c hc).towk, wfG_u8 h0, wfG_u8 h3, wfG_u8 h7⟩, ⟨b3, a3, r3, ⟨wfG_u32 h1, wfG_u32 h2⟩⟩⟩
end
end Go.Proofs.YtdlhaidlokkmnaaGreatDoor
namespace Go.Proofs.YtdlhaidlokkmnaaGreatDoor
open Go.RowKit Go.ChangeShapes Go.WideShapes Go.ChangeAt
section
variable {H : Type} {enc : TypeId × Value → H} {w : World} {base : Nat} {spare : Nat → Bool} {held : Bool} {r : Reach} {base2 : Nat} {v : Value} {d : DataW H} {ps : List MemPlace}
theorem openR_b32 {n : Nat} {p : RR} {x : DataW H × List MemPlace} (h : DataW.trod enc Tryz.prog w base spare held n 55 p.cells = some x) : B32 p.r.oid ∧ B32 p.r.ver := by
  have hl := flat_open 4 _ _ n _ x Tryz.flatRelG h
  obtain ⟨l0, l1, l2, l3, l4, _⟩ := hl
  obtain ⟨oid, e0, h0⟩ := l0.int Tryz.underlying41
  obtain ⟨ver, e1, h1⟩ := l1.int Tryz.underlying41
  cases e0
  cases e1
  exact ⟨wfG_u32 h0, wfG_u32 h1⟩
theorem openG_relsB (h : DataW.Trod enc Tryz.prog w base spare held 22 v d ps) (hv : Value.okWide Tryz.prog w r base2 22 v) (hwt : ∀ q ∈ d.weights Tryz.prog 22, q ≤ reachBytes) :
    ∃ (l : List RR) (a : Option Addr) (cap : Nat), v = .slice a l.length cap ∧ RL w (.slice a l.length cap) l ∧ l.length ≤ 9223372036854775807 ∧ (∀ p ∈ l, p.r.wb) ∧ ∀ p ∈ l, B32 p.r.oid ∧ B32 p.r.ver := by
  obtain ⟨a, len, cap, rfl⟩ := okWide_slice Tryz.underlying22 hv
  obtain ⟨n, hn⟩ := h
  obtain ⟨v', xss, hcs, hsl, hlen, _, hx⟩ := trod_slW Tryz.underlying22 Tryz.cellsRelG (by decide) hn
  have e : v' = .slice a len cap := by simpa [Value.cells] using hcs.symm
  obtain ⟨l, rfl, hl⟩ := exists_map (f := RR.cells) (p := fun p => (p.in w ∧ p.r.wb) ∧ B32 p.r.oid ∧ B32 p.r.ver) xss (fun xs hxs => by
    obtain ⟨_, n, y, h, hq⟩ := hx xs hxs
    obtain ⟨p, h1, h2⟩ := openR_one h (fun q hm => hwt q (hq q hm))
    subst h1
    exact ⟨p, rfl, h2, openR_b32 h⟩)
  rw [e] at hsl
  obtain ⟨a', cap', he, hshape⟩ := hsl.shape (n := l.length) (by simp)
  simp only [Value.slice.injEq] at he
  obtain ⟨rfl, rfl, rfl⟩ := he
  exact ⟨l, a, cap, rfl, ⟨hsl, fun p hp => (hl p hp).1.1⟩, by simpa using hlen, fun p hp => (hl p hp).1.2, fun p hp => (hl p hp).2⟩
end
end Go.Proofs.YtdlhaidlokkmnaaGreatDoor
namespace Go.Proofs.YtdlhaidlokkmnaaGreatDoor
open Go.RowKit Go.ChangeShapes Go.WideShapes Go.ChangeAt
structure TL.tw (t : TL) : Prop where
  xid : B32 t.xid
  st : 0 ≤ t.st ∧ t.st < 18446744073709551616
  es : ∀ e ∈ t.es, e.e.tw
section
variable {H : Type} {enc : TypeId × Value → H} {w : World} {base : Nat} {spare : Nat → Bool} {held : Bool} {r : Reach} {base2 : Nat} {v : Value} {d : DataW H} {ps : List MemPlace}
theorem openT_oneW {n : Nat} {cs : List Value} {x : DataW H × List MemPlace} (h : DataW.trod enc Tryz.prog w base spare held n 45 cs = some x) (hwt : ∀ q ∈ x.1.weights Tryz.prog 45, q ≤ reachBytes) :
    ∃ p : TL, cs = p.vals ∧ p.at 6 K.rc w ∧ p.sz ∧ p.tw := by
  obtain ⟨xs, m, _, rfl, hlen, hxl, hf⟩ := DataW.trod_struct Tryz.underlying45 h
  match cs, hlen with
  | [c0, c1, c2], _ =>
    have h0 : DataW.trod enc Tryz.prog w base spare held m 41 ((([c0, c1, c2] : List Value).drop 0).take (Tryz.prog.cellsOf 41)) = xs[0]? := (hf 0 _ rfl).trans rfl
    have h1 : DataW.trod enc Tryz.prog w base spare held m 42 ((([c0, c1, c2] : List Value).drop 1).take (Tryz.prog.cellsOf 42)) = xs[1]? := (hf 1 _ rfl).trans rfl
    have h2 : DataW.trod enc Tryz.prog w base spare held m 43 ((([c0, c1, c2] : List Value).drop 2).take (Tryz.prog.cellsOf 43)) = xs[2]? := (hf 2 _ rfl).trans rfl
    rw [Tryz.cellsU32E] at h0
    rw [Tryz.cellsU64E] at h1
    rw [Tryz.cellsSEv13] at h2
    simp only [List.drop_succ_cons, List.drop_zero, List.take_succ_cons, List.take_zero] at h0 h1 h2
    have l0 : 0 < xs.length := by rw [hxl]; decide
    have l1 : 1 < xs.length := by rw [hxl]; decide
    have l2 : 2 < xs.length := by rw [hxl]; decide
    rw [List.getElem?_eq_getElem l0] at h0
    rw [List.getElem?_eq_getElem l1] at h1
    rw [List.getElem?_eq_getElem l2] at h2
    have f0 : Lf enc Tryz.prog w base spare held 41 c0 := ⟨m, _, h0⟩
    have f1 : Lf enc Tryz.prog w base spare held 42 c1 := ⟨m, _, h1⟩
    obtain ⟨xid, rfl, g0⟩ := f0.int Tryz.underlying41
    obtain ⟨st, rfl, g1⟩ := f1.int Tryz.underlying42
    have hwt2 : ∀ q ∈ (xs[2]).1.weights Tryz.prog 43, q ≤ reachBytes := fun q hq => by
      refine hwt q ?_
      simp only [DataW.weights, Tryz.underlying45]
      refine DataW.weights_mem_each (j := 2) (t := 43) (d := (xs[2]).1) rfl (by rw [List.getElem?_map, List.getElem?_eq_getElem l2]; rfl) q hq
    obtain ⟨v', xss, hcs, hsl, hlen2, hw2, hx⟩ := trod_slW Tryz.underlying43 Tryz.cellsEv13 (by decide) h2
    obtain rfl : c2 = v' := by simpa using hcs
    obtain ⟨es, rfl, hes⟩ := exists_map (f := EL.vals) (p := fun p => p.at 6 K.rc w ∧ p.e.sz ∧ p.e.tw) xss (fun xs hxs => by
      obtain ⟨_, n, x, h, _⟩ := hx xs hxs
      obtain ⟨p, h1, h2, h3, h4⟩ := openE_oneW h
      exact ⟨p, h1, h2, h3, h4⟩)
    obtain ⟨a, cap, rfl, hshape⟩ := hsl.shape (n := es.length) (by simp)
    refine ⟨⟨xid, st, es, a, cap⟩, rfl, ⟨hsl, fun x hx => (hes x hx).1⟩, ⟨?_, fun x hx => (hes x hx).2.1, (wfG_u32 g0).1⟩, ⟨wfG_u32 g0, wfG_u64 g1, fun x hx => (hes x hx).2.2⟩⟩
    rcases hw2 with h0 | ⟨q, hq, hle⟩
    · have : es = [] := by simpa using h0
      simp [this]
    · have h5 := hwt2 q hq
      rw [Tryz.bytesEv13, List.length_map] at hle
      have h6 : reachBytes = 140737488351232 := rfl
      show es.length ≤ 1500000000000
      omega
theorem openG_txs13w (h : DataW.Trod enc Tryz.prog w base spare held 23 v d ps) (hv : Value.okWide Tryz.prog w r base2 23 v) (hwt : ∀ q ∈ d.weights Tryz.prog 23, q ≤ reachBytes) :
    ∃ (l : List TL) (a : Option Addr) (cap : Nat), v = .slice a l.length cap ∧ TS 6 K.rc w (.slice a l.length cap) l ∧ l.length ≤ 9223372036854775807 ∧ (∀ p ∈ l, p.sz) ∧ ∀ p ∈ l, p.tw := by
  obtain ⟨a, len, cap, rfl⟩ := okWide_slice Tryz.underlying23 hv
  obtain ⟨n, hn⟩ := h
  obtain ⟨v', xss, hcs, hsl, hlen, _, hx⟩ := trod_slW Tryz.underlying23 Tryz.cellsTx13 (by decide) hn
  have e : v' = .slice a len cap := by simpa [Value.cells] using hcs.symm
  obtain ⟨l, rfl, hl⟩ := exists_map (f := TL.vals) (p := fun p => p.at 6 K.rc w ∧ p.sz ∧ p.tw) xss (fun xs hxs => by
    obtain ⟨_, n, y, h, hq⟩ := hx xs hxs
    exact openT_oneW h (fun q hm => hwt q (hq q hm)))
  rw [e] at hsl
  obtain ⟨a', cap', he, hshape⟩ := hsl.shape (n := l.length) (by simp)
  simp only [Value.slice.injEq] at he
  obtain ⟨rfl, rfl, rfl⟩ := he
  exact ⟨l, a, cap, rfl, ⟨hsl, fun p hp => (hl p hp).1⟩, by simpa using hlen, fun p hp => (hl p hp).2.1, fun p hp => (hl p hp).2.2⟩
end
end Go.Proofs.YtdlhaidlokkmnaaGreatDoor
