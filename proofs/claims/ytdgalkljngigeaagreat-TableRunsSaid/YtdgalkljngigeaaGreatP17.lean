/-
Relations of the arguments, opened: none has more columns than a slice may have.
-/
import Derived.SizedLaws
import Derived.Test.YtdgalkljngigeaaGreatP16
namespace Go.Proofs.YtdgalkljngigeaaGreat
open Go.RowKit Go.ChangeShapes Go.WideShapes Go.ChangeAt

section
variable {H : Type} {enc : TypeId × Value → H} {P : Program} {w : World} {base : Nat} {spare : Nat → Bool} {held : Bool}
theorem weightsAll_mem {e : TypeId} : ∀ {l : List (DataW H)} {d : DataW H}, d ∈ l → ∀ n ∈ d.weights P e, n ∈ DataW.weightsAll P e l
  | d' :: r, d, hd, n, hn => by
    simp only [DataW.weightsAll, List.mem_append]
    rcases List.mem_cons.1 hd with rfl | h
    · exact Or.inl hn
    · exact Or.inr (weightsAll_mem h n hn)
/-- A slice, opened: its elements' cells, what each reads as, and what it weighs. -/
theorem trod_slW {T E : TypeId} {k n : Nat} {cs : List Value} {x : DataW H × List MemPlace} (ht : P.underlying T = some (.slice E)) (hk : P.cellsOf E = k) (hk0 : 0 < k) (h : DataW.trod enc P w base spare held n T cs = some x) :
    ∃ v xss, cs = [v] ∧ Sl w v k xss ∧ xss.length ≤ 9223372036854775807 ∧ (xss = [] ∨ ∃ q ∈ x.1.weights P T, xss.length * P.bytesOf E ≤ q) ∧ ∀ xs ∈ xss, xs.length = k ∧ ∃ n y, DataW.trod enc P w base spare held n E xs = some y ∧ ∀ q ∈ y.1.weights P E, q ∈ x.1.weights P T := by
  rcases Go.Deep.open_slice ht h with ⟨rfl, rfl⟩ | ⟨a, len, cap, m, q, D, Pl, rfl, hb, hl, hm, hmm, hxx, hx⟩
  · exact ⟨_, [], rfl, ⟨none, 0, rfl, .inl rfl⟩, by simp, .inl rfl, by simp⟩
  · have hlm : len ≤ m := by rw [hmm]; split <;> omega
    have hw : ∀ i, i < len → ∀ q ∈ (D i).weights P E, q ∈ x.1.weights P T := fun i hi q hq => by
      rw [hxx]
      simp only [DataW.weights, ht, List.mem_cons, List.mem_append]
      exact .inr (.inl (weightsAll_mem (List.mem_map.2 ⟨i, List.mem_range.2 hi, rfl⟩) q hq))
    have hall : ∀ i, i < len → ∃ cs', w.cells? base (a.add (i * k)) k = some cs' ∧ DataW.trod enc P w base spare held q E cs' = some (D i, Pl i) := fun i hi => by
      have := hx i (by omega); rwa [hk] at this
    obtain ⟨C, hC⟩ := Go.Deep.choose_lt hall
    have hcl : cap ≤ 9223372036854775807 := hm
    refine ⟨_, (List.range len).map C, rfl, ?_, by simp; omega, .inr ⟨(len + (m - len)) * P.bytesOf E, ?_, ?_⟩, ?_⟩
    · refine ⟨some a, cap, by simp, ?_⟩
      by_cases h0 : len = 0
      · subst h0; exact .inl rfl
      · right
        have hc0 := (World.cells?_some (hC 0 (by omega)).1)
        have e0 : (a.add (0 * k)).add 0 = a := by unfold Addr.add; simp
        have hcell : (w.cell? a).isSome = true := by
          have := hc0.2.2 0 hk0
          rw [e0] at this
          rw [this, List.getElem?_eq_getElem (by omega)]; rfl
        have hsp : a.spot = none := by
          unfold World.cell? at hcell
          split at hcell
          · split at hcell
            · simp at hcell
            · rename_i hs; simpa using hs
          · simp at hcell
        have hlt : a.block < w.heap.size := by
          unfold World.cell? at hcell
          rcases Nat.lt_or_ge a.block w.heap.size with h1 | h1
          · exact h1
          · rw [Array.getElem?_eq_none h1] at hcell; simp at hcell
        refine ⟨a.block, a.off, by cases a; simp at hsp; subst hsp; rfl, hlt, ?_⟩
        intro i hi j hj
        simp only [List.length_map, List.length_range] at hi
        have h2 := (World.cells?_some (hC i hi).1).2.2 j hj
        rw [Go.Deep.add_add] at h2
        have e : a.add (i * k + j) = ⟨a.block, a.off + i * k + j, none⟩ := by
          unfold Addr.add
          split
          · rename_i hz
            have h3 : i * k = 0 := by omega
            have h4 : j = 0 := by omega
            cases a; simp at hsp; subst hsp; simp [h3, h4]
          · cases a; simp at hsp; subst hsp; simp
        rw [e] at h2
        rw [h2]
        simp [hi]
    · rw [hxx]
      simp only [DataW.weights, ht, List.mem_cons, List.length_map, List.length_range, true_or]
    · rw [List.length_map, List.length_range]
      exact Nat.mul_le_mul_right _ (by omega)
    · intro xs hxs
      simp only [List.mem_map, List.mem_range] at hxs
      obtain ⟨i, hi, rfl⟩ := hxs
      exact ⟨(World.cells?_some (hC i hi).1).2.1, _, _, (hC i hi).2, hw i hi⟩
end

theorem Tryz.cellsRelG : Tryz.prog.cellsOf 51 = 5 := by kernel_rfl
theorem Tryz.cellsColsG : Tryz.prog.cellsOf 49 = 1 := by kernel_rfl
theorem Tryz.bytesColG : Tryz.prog.bytesOf 129 = 24 := by kernel_rfl
section
variable {H : Type} {enc : TypeId × Value → H} {w : World} {base : Nat} {spare : Nat → Bool} {held : Bool} {r : Reach} {base2 : Nat} {v : Value} {d : DataW H} {ps : List MemPlace}
set_option maxRecDepth 20000 in
theorem openR_one {n : Nat} {cs : List Value} {x : DataW H × List MemPlace} (h : DataW.trod enc Tryz.prog w base spare held n 51 cs = some x) (hwt : ∀ q ∈ x.1.weights Tryz.prog 51, q ≤ reachBytes) :
    ∃ p : RR, cs = p.cells ∧ p.in w ∧ p.r.wb := by
  have hl := flat_open 4 _ _ n cs x Tryz.flatRelG h
  obtain ⟨xs, m, _, rfl, hlen, hxl, hf⟩ := DataW.trod_struct Tryz.underlying51 h
  match cs, hl with
  | [c0, c1, c2, c3, c4], ⟨l0, l1, l2, l3, l4, _⟩ =>
    obtain ⟨oid, rfl, h0⟩ := l0.int Tryz.underlying30
    obtain ⟨ver, rfl, h1⟩ := l1.int Tryz.underlying30
    obtain ⟨nm, rfl, h2⟩ := l2.string Tryz.underlying9
    obtain ⟨id, rfl, h3⟩ := l3.int Tryz.underlying5
    have h4 : DataW.trod enc Tryz.prog w base spare held m 49 ((([Value.int .u32 oid, .int .u32 ver, .string nm, .int .u8 id, c4] : List Value).drop 4).take (Tryz.prog.cellsOf 49)) = xs[3]? := (hf 3 _ rfl).trans rfl
    rw [Tryz.cellsColsG] at h4
    simp only [List.drop_succ_cons, List.drop_zero, List.take_succ_cons, List.take_zero] at h4
    have h3l : 3 < xs.length := by rw [hxl]; decide
    rw [List.getElem?_eq_getElem h3l] at h4
    have hwt2 : ∀ q ∈ (xs[3]).1.weights Tryz.prog 49, q ≤ reachBytes := fun q hq => by
      refine hwt q ?_
      simp only [DataW.weights, Tryz.underlying51]
      refine DataW.weights_mem_each (j := 3) (t := 49) (d := (xs[3]).1) rfl (by rw [List.getElem?_map, List.getElem?_eq_getElem h3l]; rfl) q hq
    obtain ⟨v', xss, hcs, hsl, hlen2, hw2, hx⟩ := trod_slW Tryz.underlying49 Tryz.cellsColG (by decide) h4
    obtain rfl : c4 = v' := by simpa using hcs
    obtain ⟨cols, rfl, hcl⟩ := exists_map (f := Col.cells) (p := fun c => c.nm.size ≤ 9223372036854775807) xss (fun xs hxs => by
      obtain ⟨_, n, x, h, _⟩ := hx xs hxs
      have hl := flat_open 4 _ _ n xs x Tryz.flatColG h
      match xs, hl with
      | [d0, d1, d2], ⟨m0, m1, m2, _⟩ =>
        obtain ⟨s, rfl, hs⟩ := m0.string Tryz.underlying9
        obtain ⟨ty, rfl, _⟩ := m1.int Tryz.underlying5
        obtain ⟨b, rfl⟩ := m2.bool Tryz.underlying4
        exact ⟨⟨s, ty, b⟩, rfl, hs⟩)
    obtain ⟨a, cap, rfl, hshape⟩ := hsl.shape (n := cols.length) (by simp)
    refine ⟨⟨⟨oid, ver, nm, id, cols⟩, a, cap⟩, rfl, hsl, ⟨h2, hcl, ?_, (wfG_u8 h3).1⟩⟩
    rcases hw2 with h0 | ⟨q, hq, hle⟩
    · have : cols = [] := by simpa using h0
      simp [this]
    · have h5 := hwt2 q hq
      rw [Tryz.bytesColG, List.length_map] at hle
      have h6 : reachBytes = 140737488351232 := rfl
      show cols.length ≤ 5864062014634
      omega
set_option maxRecDepth 20000 in
theorem openG_rels (h : DataW.Trod enc Tryz.prog w base spare held 22 v d ps) (hv : Value.okWide Tryz.prog w r base2 22 v) (hwt : ∀ q ∈ d.weights Tryz.prog 22, q ≤ reachBytes) :
    ∃ (l : List RR) (a : Option Addr) (cap : Nat), v = .slice a l.length cap ∧ RL w (.slice a l.length cap) l ∧ l.length ≤ 9223372036854775807 ∧ ∀ p ∈ l, p.r.wb := by
  obtain ⟨a, len, cap, rfl⟩ := okWide_slice Tryz.underlying22 hv
  obtain ⟨n, hn⟩ := h
  obtain ⟨v', xss, hcs, hsl, hlen, _, hx⟩ := trod_slW Tryz.underlying22 Tryz.cellsRelG (by decide) hn
  have e : v' = .slice a len cap := by simpa [Value.cells] using hcs.symm
  obtain ⟨l, rfl, hl⟩ := exists_map (f := RR.cells) (p := fun p => p.in w ∧ p.r.wb) xss (fun xs hxs => by
    obtain ⟨_, n, y, h, hq⟩ := hx xs hxs
    exact openR_one h (fun q hm => hwt q (hq q hm)))
  rw [e] at hsl
  obtain ⟨a', cap', he, hshape⟩ := hsl.shape (n := l.length) (by simp)
  simp only [Value.slice.injEq] at he
  obtain ⟨rfl, rfl, rfl⟩ := he
  exact ⟨l, a, cap, rfl, ⟨hsl, fun p hp => (hl p hp).1⟩, by simpa using hlen, fun p hp => (hl p hp).2⟩
set_option maxRecDepth 20000 in
theorem openG_rel1 (h : DataW.Trod enc Tryz.prog w base spare held 51 v d ps) (hv : Value.okWide Tryz.prog w r base2 51 v) (hwt : ∀ q ∈ d.weights Tryz.prog 51, q ≤ reachBytes) :
    ∃ p : RR, v = p.agg ∧ p.in w ∧ p.r.wb := by
  obtain ⟨cs, rfl, _⟩ := okWide_struct Tryz.underlying51 hv
  obtain ⟨n, hn⟩ := h
  obtain ⟨p, h1, h2, h3⟩ := openR_one hn hwt
  exact ⟨p, by unfold RR.agg; rw [show cs = #[.int .u32 p.r.oid, .int .u32 p.r.ver, .string p.r.nm, .int .u8 p.r.id, .slice p.a p.r.cols.length p.c] from Array.toList_inj.1 h1], h2, h3⟩
theorem Tryz.flatRefG : flat Tryz.prog 4 44 = some [30, 30] := by kernel_rfl
theorem Tryz.cellsRefG : Tryz.prog.cellsOf 44 = 2 := by kernel_rfl
set_option maxRecDepth 20000 in
theorem openG_refs (h : DataW.Trod enc Tryz.prog w base spare held 83 v d ps) (hv : Value.okWide Tryz.prog w r base2 83 v) :
    ∃ (l : List Rf) (a : Option Addr) (cap : Nat), v = .slice a l.length cap ∧ Sl w (.slice a l.length cap) 2 (l.map Rf.cells) ∧ l.length ≤ 9223372036854775807 := by
  obtain ⟨l, hsl, hl, hx⟩ := openG_slice (f := Rf.cells) (p := fun _ => True) Tryz.underlying83 Tryz.cellsRefG (by decide) (fun n xs x hx => by
    have hl := flat_open 4 _ _ n xs x Tryz.flatRefG hx
    match xs, hl with
    | [c0, c1], ⟨l0, l1, _⟩ =>
      obtain ⟨c, rfl, _⟩ := l0.int Tryz.underlying30
      obtain ⟨m, rfl, _⟩ := l1.int Tryz.underlying30
      exact ⟨⟨c, m⟩, rfl, trivial⟩) h hv
  obtain ⟨a, cap, rfl, hshape⟩ := hsl.shape (n := l.length) (by simp)
  exact ⟨l, a, cap, rfl, hsl, hl⟩
set_option maxRecDepth 20000 in
theorem openG_ref (h : DataW.Trod enc Tryz.prog w base spare held 44 v d ps) (hv : Value.okWide Tryz.prog w r base2 44 v) : ∃ o u : Int, v = .agg #[.int .u32 o, .int .u32 u] := by
  obtain ⟨cs, rfl, _⟩ := okWide_struct Tryz.underlying44 hv
  obtain ⟨n, hn⟩ := h
  have hl := flat_open 4 _ _ n _ _ Tryz.flatRefG hn
  have hl' : Lfs enc Tryz.prog w base spare held [30, 30] cs.toList := hl
  obtain ⟨cl, hcl2⟩ : ∃ cl, cs.toList = cl := ⟨_, rfl⟩
  rw [hcl2] at hl'
  match cl, hl' with
  | [c0, c1], ⟨l0, l1, _⟩ =>
    obtain ⟨o, rfl, _⟩ := l0.int Tryz.underlying30
    obtain ⟨u, rfl, _⟩ := l1.int Tryz.underlying30
    exact ⟨o, u, by rw [show cs = #[.int .u32 o, .int .u32 u] from Array.toList_inj.1 hcl2]⟩
end

end Go.Proofs.YtdgalkljngigeaaGreat

/-
Relations of the arguments, opened: what each of their numbers is within, too.
-/
namespace Go.Proofs.YtdgalkljngigeaaGreat
open Go.RowKit Go.ChangeShapes Go.WideShapes Go.ChangeAt

section
variable {H : Type} {enc : TypeId × Value → H} {w : World} {base : Nat} {spare : Nat → Bool} {held : Bool} {r : Reach} {base2 : Nat} {v : Value} {d : DataW H} {ps : List MemPlace}
set_option maxRecDepth 20000 in
theorem openR_b32 {n : Nat} {p : RR} {x : DataW H × List MemPlace} (h : DataW.trod enc Tryz.prog w base spare held n 51 p.cells = some x) : B32 p.r.oid ∧ B32 p.r.ver := by
  have hl := flat_open 4 _ _ n _ x Tryz.flatRelG h
  obtain ⟨l0, l1, l2, l3, l4, _⟩ := hl
  obtain ⟨oid, e0, h0⟩ := l0.int Tryz.underlying30
  obtain ⟨ver, e1, h1⟩ := l1.int Tryz.underlying30
  cases e0
  cases e1
  exact ⟨wfG_u32 h0, wfG_u32 h1⟩
set_option maxRecDepth 20000 in
theorem openG_relsB (h : DataW.Trod enc Tryz.prog w base spare held 22 v d ps) (hv : Value.okWide Tryz.prog w r base2 22 v) (hwt : ∀ q ∈ d.weights Tryz.prog 22, q ≤ reachBytes) :
    ∃ (l : List RR) (a : Option Addr) (cap : Nat), v = .slice a l.length cap ∧ RL w (.slice a l.length cap) l ∧ l.length ≤ 9223372036854775807 ∧ (∀ p ∈ l, p.r.wb) ∧ ∀ p ∈ l, B32 p.r.oid ∧ B32 p.r.ver := by
  obtain ⟨a, len, cap, rfl⟩ := okWide_slice Tryz.underlying22 hv
  obtain ⟨n, hn⟩ := h
  obtain ⟨v', xss, hcs, hsl, hlen, _, hx⟩ := trod_slW Tryz.underlying22 Tryz.cellsRelG (by decide) hn
  have e : v' = .slice a len cap := by simpa [Value.cells] using hcs.symm
  obtain ⟨l, rfl, hl⟩ := exists_map (f := RR.cells) (p := fun p => (p.in w ∧ p.r.wb) ∧ B32 p.r.oid ∧ B32 p.r.ver) xss (fun xs hxs => by
    obtain ⟨_, n, y, h, hq⟩ := hx xs hxs
    obtain ⟨p, h1, h2⟩ := openR_one h (fun q hm => hwt q (hq q hm))
    subst h1
    exact ⟨p, rfl, h2, openR_b32 h⟩)
  rw [e] at hsl
  obtain ⟨a', cap', he, hshape⟩ := hsl.shape (n := l.length) (by simp)
  simp only [Value.slice.injEq] at he
  obtain ⟨rfl, rfl, rfl⟩ := he
  exact ⟨l, a, cap, rfl, ⟨hsl, fun p hp => (hl p hp).1.1⟩, by simpa using hlen, fun p hp => (hl p hp).1.2, fun p hp => (hl p hp).2⟩
end
end Go.Proofs.YtdgalkljngigeaaGreat

/-
Cells of the arguments, opened.
-/
namespace Go.Proofs.YtdgalkljngigeaaGreat
open Go.RowKit Go.ChangeShapes Go.WideShapes Go.ChangeAt

theorem Tryz.flatCellG : flat Tryz.prog 4 119 = some [5, 5, 2, 31, 31, 9] := by kernel_rfl
section
variable {H : Type} {enc : TypeId × Value → H} {w : World} {base : Nat} {spare : Nat → Bool} {held : Bool} {r : Reach} {base2 : Nat} {v : Value} {d : DataW H} {ps : List MemPlace}
set_option maxRecDepth 20000 in
theorem openC_list {n : Nat} {cs : List Value} {x : DataW H × List MemPlace} (h : DataW.trod enc Tryz.prog w base spare held n 119 cs = some x) :
    ∃ (k ty m : Int) (a b : Nat) (s : ByteArray), cs = [.int .u8 k, .int .u8 ty, .int .i64 m, .int .u64 a, .int .u64 b, .string s] ∧ (0 ≤ k ∧ k < 256) ∧ (0 ≤ ty ∧ ty < 256) ∧ (-9223372036854775808 ≤ m ∧ m < 9223372036854775808) ∧ a < 2 ^ 64 ∧ b < 2 ^ 64 ∧ s.size ≤ 9223372036854775807 := by
  have hl := flat_open 4 _ _ n cs x Tryz.flatCellG h
  match cs, hl with
  | [c0, c1, c2, c3, c4, c5], ⟨l0, l1, l2, l3, l4, l5, _⟩ =>
    obtain ⟨k, rfl, h0⟩ := l0.int Tryz.underlying5
    obtain ⟨ty, rfl, h1⟩ := l1.int Tryz.underlying5
    obtain ⟨m, rfl, h2⟩ := l2.int Tryz.underlying2
    obtain ⟨a, rfl, h3⟩ := l3.int Tryz.underlying31
    obtain ⟨b, rfl, h4⟩ := l4.int Tryz.underlying31
    obtain ⟨s, rfl, h5⟩ := l5.string Tryz.underlying9
    obtain ⟨a, rfl⟩ := Int.eq_ofNat_of_zero_le (wfG_u64 h3).1
    obtain ⟨b, rfl⟩ := Int.eq_ofNat_of_zero_le (wfG_u64 h4).1
    exact ⟨k, ty, m, a, b, s, rfl, wfG_u8 h0, wfG_u8 h1, wfG_i64 h2, by have := (wfG_u64 h3).2; omega, by have := (wfG_u64 h4).2; omega, h5⟩
set_option maxRecDepth 20000 in
theorem openG_cell (h : DataW.Trod enc Tryz.prog w base spare held 119 v d ps) (hv : Value.okWide Tryz.prog w r base2 119 v) :
    ∃ (k ty m : Int) (a b : Nat) (s : ByteArray), v = .agg #[.int .u8 k, .int .u8 ty, .int .i64 m, .int .u64 a, .int .u64 b, .string s] ∧ (0 ≤ k ∧ k < 256) ∧ (0 ≤ ty ∧ ty < 256) ∧ (-9223372036854775808 ≤ m ∧ m < 9223372036854775808) ∧ a < 2 ^ 64 ∧ b < 2 ^ 64 ∧ s.size ≤ 9223372036854775807 := by
  obtain ⟨cs, rfl, _⟩ := okWide_struct Tryz.underlying119 hv
  obtain ⟨n, hn⟩ := h
  obtain ⟨k, ty, m, x, y, s, hr, h0, h1, hm, hx, hy, hs⟩ := openC_list hn
  exact ⟨k, ty, m, x, y, s, by rw [show cs = #[.int .u8 k, .int .u8 ty, .int .i64 m, .int .u64 x, .int .u64 y, .string s] from Array.toList_inj.1 hr], h0, h1, hm, hx, hy, hs⟩
end

end Go.Proofs.YtdgalkljngigeaaGreat

/-
Relations, columns and rows of the arguments, opened.
-/
namespace Go.Proofs.YtdgalkljngigeaaGreat
open Go.RowKit Go.ChangeShapes Go.WideShapes Go.ChangeAt

theorem Tryz.cellsCellG : Tryz.prog.cellsOf 119 = 6 := by kernel_rfl
/-- What is known of a cell of the arguments. -/
structure K.tw (c : K) : Prop extends K.wk c where
  n : -9223372036854775808 ≤ c.v.n ∧ c.v.n < 9223372036854775808
  x : c.v.x < 2 ^ 64
  y : c.v.y < 2 ^ 64
section
variable {H : Type} {enc : TypeId × Value → H} {w : World} {base : Nat} {spare : Nat → Bool} {held : Bool} {r : Reach} {base2 : Nat} {v : Value} {d : DataW H} {ps : List MemPlace}
set_option maxRecDepth 20000 in
theorem openG_row (h : DataW.Trod enc Tryz.prog w base spare held 45 v d ps) (hv : Value.okWide Tryz.prog w r base2 45 v) :
    ∃ (l : List K) (a : Option Addr) (cap : Nat), v = .slice a l.length cap ∧ Sl w (.slice a l.length cap) 6 (l.map K.rc) ∧ l.length ≤ 9223372036854775807 ∧ ∀ c ∈ l, c.tw := by
  obtain ⟨l, hsl, hl, hx⟩ := openG_slice (f := K.rc) (p := K.tw) Tryz.underlying45 Tryz.cellsCellG (by decide) (fun n xs x hx => by
    obtain ⟨k, ty, m, a, b, s, rfl, hk, ht, hm, hx, hy, hs⟩ := openC_list hx
    exact ⟨⟨k, ⟨ty, m, a, b, s⟩⟩, rfl, ⟨⟨hk.1, hs⟩, hm, hx, hy⟩⟩) h hv
  obtain ⟨a, cap, rfl, hshape⟩ := hsl.shape (n := l.length) (by simp)
  exact ⟨l, a, cap, rfl, hsl, hl, hx⟩
set_option maxRecDepth 20000 in
theorem openG_rel (h : DataW.Trod enc Tryz.prog w base spare held 51 v d ps) (hv : Value.okWide Tryz.prog w r base2 51 v) :
    ∃ (oid ver : Int) (nm : ByteArray) (id : Int) (cols : List Col) (a : Option Addr) (cap : Nat), v = .agg #[.int .u32 oid, .int .u32 ver, .string nm, .int .u8 id, .slice a cols.length cap] ∧ Sl w (.slice a cols.length cap) 3 (cols.map Col.cells) ∧ cols.length ≤ 9223372036854775807 ∧
      (∀ c ∈ cols, c.nm.size ≤ 9223372036854775807) ∧ nm.size ≤ 9223372036854775807 ∧ (0 ≤ id ∧ id < 256) := by
  obtain ⟨cs, rfl, _⟩ := okWide_struct Tryz.underlying51 hv
  obtain ⟨n, hn⟩ := h
  have hl := flat_open 4 _ _ n _ _ Tryz.flatRelG hn
  have hl' : Lfs enc Tryz.prog w base spare held [30, 30, 9, 5, 49] cs.toList := hl
  obtain ⟨cl, hcl2⟩ : ∃ cl, cs.toList = cl := ⟨_, rfl⟩
  rw [hcl2] at hl'
  match cl, hl' with
  | [c0, c1, c2, c3, c4], ⟨l0, l1, l2, l3, l4, _⟩ =>
    obtain ⟨oid, rfl, h0⟩ := l0.int Tryz.underlying30
    obtain ⟨ver, rfl, h1⟩ := l1.int Tryz.underlying30
    obtain ⟨nm, rfl, h2⟩ := l2.string Tryz.underlying9
    obtain ⟨id, rfl, h3⟩ := l3.int Tryz.underlying5
    obtain ⟨m, x, h4⟩ := l4
    obtain ⟨v', xss, hcs, hsl, hlen, hx⟩ := trod_sl Tryz.underlying49 Tryz.cellsColG (by decide) h4
    obtain rfl : c4 = v' := by simpa using hcs
    obtain ⟨cols, rfl, hl⟩ := exists_map (f := Col.cells) (p := fun c => c.nm.size ≤ 9223372036854775807) xss (fun xs hxs => by
      obtain ⟨_, n, x, h⟩ := hx xs hxs
      have hl := flat_open 4 _ _ n xs x Tryz.flatColG h
      match xs, hl with
      | [d0, d1, d2], ⟨m0, m1, m2, _⟩ =>
        obtain ⟨s, rfl, hs⟩ := m0.string Tryz.underlying9
        obtain ⟨ty, rfl, _⟩ := m1.int Tryz.underlying5
        obtain ⟨b, rfl⟩ := m2.bool Tryz.underlying4
        exact ⟨⟨s, ty, b⟩, rfl, hs⟩)
    obtain ⟨a, cap, rfl, hshape⟩ := hsl.shape (n := cols.length) (by simp)
    have e : cs = #[.int .u32 oid, .int .u32 ver, .string nm, .int .u8 id, .slice a cols.length cap] := Array.toList_inj.1 hcl2
    exact ⟨oid, ver, nm, id, cols, a, cap, by rw [e], hsl, by simpa using hlen, hl, h2, wfG_u8 h3⟩
end

end Go.Proofs.YtdgalkljngigeaaGreat

/-
Events and transactions of the arguments, opened.
-/
namespace Go.Proofs.YtdgalkljngigeaaGreat
open Go.RowKit Go.ChangeShapes Go.WideShapes Go.ChangeAt

theorem Tryz.flatEv13 : flat Tryz.prog 4 85 = some [5, 30, 30, 5, 45, 45, 83, 5] := by kernel_rfl
theorem Tryz.cellsEv13 : Tryz.prog.cellsOf 85 = 8 := by kernel_rfl
theorem Tryz.cellsTx13 : Tryz.prog.cellsOf 62 = 3 := by kernel_rfl
theorem Tryz.cellsSEv13 : Tryz.prog.cellsOf 60 = 1 := by kernel_rfl
theorem Tryz.cellsU32E : Tryz.prog.cellsOf 30 = 1 := by kernel_rfl
theorem Tryz.cellsU64E : Tryz.prog.cellsOf 31 = 1 := by kernel_rfl
theorem Tryz.bytesEv13 : Tryz.prog.bytesOf 85 = 96 := by kernel_rfl
section
variable {H : Type} {enc : TypeId × Value → H} {w : World} {base : Nat} {spare : Nat → Bool} {held : Bool} {r : Reach} {base2 : Nat} {v : Value} {d : DataW H} {ps : List MemPlace}
theorem Lf.rowE {c : Value} (h : Lf enc Tryz.prog w base spare held 45 c) : ∃ (l : List K) (a : Option Addr) (cap : Nat), c = .slice a l.length cap ∧ Sl w (.slice a l.length cap) 6 (l.map K.rc) ∧ l.length ≤ 9223372036854775807 ∧ ∀ c ∈ l, c.wk := by
  obtain ⟨m, x, h4⟩ := h
  obtain ⟨v', xss, hcs, hsl, hlen, hx⟩ := trod_sl Tryz.underlying45 Tryz.cellsCellG (by decide) h4
  obtain rfl : c = v' := by simpa using hcs
  obtain ⟨l, rfl, hl⟩ := exists_map (f := K.rc) (p := K.wk) xss (fun xs hxs => by
    obtain ⟨_, n, x, h⟩ := hx xs hxs
    obtain ⟨k, ty, m, a, b, s, rfl, hk, ht, hm, hx, hy, hs⟩ := openC_list h
    exact ⟨⟨k, ⟨ty, m, a, b, s⟩⟩, rfl, ⟨hk.1, hs⟩⟩)
  obtain ⟨a, cap, rfl, hshape⟩ := hsl.shape (n := l.length) (by simp)
  exact ⟨l, a, cap, rfl, hsl, by simpa using hlen, hl⟩
theorem Lf.refsE {c : Value} (h : Lf enc Tryz.prog w base spare held 83 c) : ∃ (l : List Rf) (a : Option Addr) (cap : Nat), c = .slice a l.length cap ∧ Sl w (.slice a l.length cap) 2 (l.map Rf.cells) ∧ l.length ≤ 9223372036854775807 := by
  obtain ⟨m, x, h4⟩ := h
  obtain ⟨v', xss, hcs, hsl, hlen, hx⟩ := trod_sl Tryz.underlying83 Tryz.cellsRefG (by decide) h4
  obtain rfl : c = v' := by simpa using hcs
  obtain ⟨l, rfl, hl⟩ := exists_map (f := Rf.cells) (p := fun _ => True) xss (fun xs hxs => by
    obtain ⟨_, n, x, h⟩ := hx xs hxs
    have hl := flat_open 4 _ _ n xs x Tryz.flatRefG h
    match xs, hl with
    | [c0, c1], ⟨l0, l1, _⟩ =>
      obtain ⟨c, rfl, _⟩ := l0.int Tryz.underlying30
      obtain ⟨m, rfl, _⟩ := l1.int Tryz.underlying30
      exact ⟨⟨c, m⟩, rfl, trivial⟩)
  obtain ⟨a, cap, rfl, hshape⟩ := hsl.shape (n := l.length) (by simp)
  exact ⟨l, a, cap, rfl, hsl, by simpa using hlen⟩
set_option maxRecDepth 20000 in
theorem openE_one {n : Nat} {cs : List Value} {x : DataW H × List MemPlace} (h : DataW.trod enc Tryz.prog w base spare held n 85 cs = some x) : ∃ p : EL, cs = p.vals ∧ p.at 6 K.rc w ∧ p.e.sz := by
  have hl := flat_open 4 _ _ n cs x Tryz.flatEv13 h
  match cs, hl with
  | [c0, c1, c2, c3, c4, c5, c6, c7], ⟨l0, l1, l2, l3, l4, l5, l6, l7, _⟩ =>
    obtain ⟨kind, rfl, h0⟩ := l0.int Tryz.underlying5
    obtain ⟨ao, rfl, h1⟩ := l1.int Tryz.underlying30
    obtain ⟨av, rfl, h2⟩ := l2.int Tryz.underlying30
    obtain ⟨old, rfl, h3⟩ := l3.int Tryz.underlying5
    obtain ⟨lb, ab, cb, rfl, b1, b2, b3⟩ := l4.rowE
    obtain ⟨la, aa, ca, rfl, a1, a2, a3⟩ := l5.rowE
    obtain ⟨lr, ar, cr, rfl, r1, r2⟩ := l6.refsE
    obtain ⟨fl, rfl, h7⟩ := l7.int Tryz.underlying5
    exact ⟨⟨⟨kind, ao, av, old, lb, la, lr, fl⟩, ab, cb, aa, ca, ar, cr⟩, rfl, ⟨b1, a1, r1⟩, ⟨b2, a2, r2, b3, a3, wfG_u8 h0, wfG_u8 h3, wfG_u8 h7⟩⟩
theorem EL.agg_of {cs : Array Value} {p : EL} (h : cs.toList = p.vals) : Value.agg cs = p.agg := by
  unfold EL.agg
  rw [show cs = #[.int .u8 p.e.kind, .int .u32 p.e.ao, .int .u32 p.e.av, .int .u8 p.e.old, .slice p.ba p.e.b.length p.bc, .slice p.aa p.e.a.length p.ac, .slice p.ra p.e.rs.length p.rc, .int .u8 p.e.fl] from Array.toList_inj.1 h]
set_option maxRecDepth 20000 in
theorem openG_ev13 (h : DataW.Trod enc Tryz.prog w base spare held 85 v d ps) (hv : Value.okWide Tryz.prog w r base2 85 v) : ∃ p : EL, v = p.agg ∧ p.at 6 K.rc w ∧ p.e.sz := by
  obtain ⟨cs, rfl, _⟩ := okWide_struct Tryz.underlying85 hv
  obtain ⟨n, hn⟩ := h
  obtain ⟨p, h1, h2, h3⟩ := openE_one hn
  exact ⟨p, EL.agg_of h1, h2, h3⟩
set_option maxRecDepth 20000 in
theorem openT_one {n : Nat} {cs : List Value} {x : DataW H × List MemPlace} (h : DataW.trod enc Tryz.prog w base spare held n 62 cs = some x) (hwt : ∀ q ∈ x.1.weights Tryz.prog 62, q ≤ reachBytes) :
    ∃ p : TL, cs = p.vals ∧ p.at 6 K.rc w ∧ p.sz := by
  obtain ⟨xs, m, _, rfl, hlen, hxl, hf⟩ := DataW.trod_struct Tryz.underlying62 h
  match cs, hlen with
  | [c0, c1, c2], _ =>
    have h0 : DataW.trod enc Tryz.prog w base spare held m 30 ((([c0, c1, c2] : List Value).drop 0).take (Tryz.prog.cellsOf 30)) = xs[0]? := (hf 0 _ rfl).trans rfl
    have h1 : DataW.trod enc Tryz.prog w base spare held m 31 ((([c0, c1, c2] : List Value).drop 1).take (Tryz.prog.cellsOf 31)) = xs[1]? := (hf 1 _ rfl).trans rfl
    have h2 : DataW.trod enc Tryz.prog w base spare held m 60 ((([c0, c1, c2] : List Value).drop 2).take (Tryz.prog.cellsOf 60)) = xs[2]? := (hf 2 _ rfl).trans rfl
    rw [Tryz.cellsU32E] at h0
    rw [Tryz.cellsU64E] at h1
    rw [Tryz.cellsSEv13] at h2
    simp only [List.drop_succ_cons, List.drop_zero, List.take_succ_cons, List.take_zero] at h0 h1 h2
    have l0 : 0 < xs.length := by rw [hxl]; decide
    have l1 : 1 < xs.length := by rw [hxl]; decide
    have l2 : 2 < xs.length := by rw [hxl]; decide
    rw [List.getElem?_eq_getElem l0] at h0
    rw [List.getElem?_eq_getElem l1] at h1
    rw [List.getElem?_eq_getElem l2] at h2
    have f0 : Lf enc Tryz.prog w base spare held 30 c0 := ⟨m, _, h0⟩
    have f1 : Lf enc Tryz.prog w base spare held 31 c1 := ⟨m, _, h1⟩
    obtain ⟨xid, rfl, g0⟩ := f0.int Tryz.underlying30
    obtain ⟨st, rfl, g1⟩ := f1.int Tryz.underlying31
    have hwt2 : ∀ q ∈ (xs[2]).1.weights Tryz.prog 60, q ≤ reachBytes := fun q hq => by
      refine hwt q ?_
      simp only [DataW.weights, Tryz.underlying62]
      refine DataW.weights_mem_each (j := 2) (t := 60) (d := (xs[2]).1) rfl (by rw [List.getElem?_map, List.getElem?_eq_getElem l2]; rfl) q hq
    obtain ⟨v', xss, hcs, hsl, hlen2, hw2, hx⟩ := trod_slW Tryz.underlying60 Tryz.cellsEv13 (by decide) h2
    obtain rfl : c2 = v' := by simpa using hcs
    obtain ⟨es, rfl, hes⟩ := exists_map (f := EL.vals) (p := fun p => p.at 6 K.rc w ∧ p.e.sz) xss (fun xs hxs => by
      obtain ⟨_, n, x, h, _⟩ := hx xs hxs
      obtain ⟨p, h1, h2, h3⟩ := openE_one h
      exact ⟨p, h1, h2, h3⟩)
    obtain ⟨a, cap, rfl, hshape⟩ := hsl.shape (n := es.length) (by simp)
    refine ⟨⟨xid, st, es, a, cap⟩, rfl, ⟨hsl, fun x hx => (hes x hx).1⟩, ⟨?_, fun x hx => (hes x hx).2, (wfG_u32 g0).1⟩⟩
    rcases hw2 with h0 | ⟨q, hq, hle⟩
    · have : es = [] := by simpa using h0
      simp [this]
    · have h5 := hwt2 q hq
      rw [Tryz.bytesEv13, List.length_map] at hle
      have h6 : reachBytes = 140737488351232 := rfl
      show es.length ≤ 1500000000000
      omega
set_option maxRecDepth 20000 in
theorem openG_tx13 (h : DataW.Trod enc Tryz.prog w base spare held 62 v d ps) (hv : Value.okWide Tryz.prog w r base2 62 v) (hwt : ∀ q ∈ d.weights Tryz.prog 62, q ≤ reachBytes) : ∃ p : TL, v = p.agg ∧ p.at 6 K.rc w ∧ p.sz := by
  obtain ⟨cs, rfl, _⟩ := okWide_struct Tryz.underlying62 hv
  obtain ⟨n, hn⟩ := h
  obtain ⟨p, h1, h2, h3⟩ := openT_one hn hwt
  exact ⟨p, by unfold TL.agg; rw [show cs = #[.int .u32 p.xid, .int .u64 p.st, .slice p.a p.es.length p.c] from Array.toList_inj.1 h1], h2, h3⟩
set_option maxRecDepth 20000 in
theorem openG_txs13 (h : DataW.Trod enc Tryz.prog w base spare held 23 v d ps) (hv : Value.okWide Tryz.prog w r base2 23 v) (hwt : ∀ q ∈ d.weights Tryz.prog 23, q ≤ reachBytes) :
    ∃ (l : List TL) (a : Option Addr) (cap : Nat), v = .slice a l.length cap ∧ TS 6 K.rc w (.slice a l.length cap) l ∧ l.length ≤ 9223372036854775807 ∧ ∀ p ∈ l, p.sz := by
  obtain ⟨a, len, cap, rfl⟩ := okWide_slice Tryz.underlying23 hv
  obtain ⟨n, hn⟩ := h
  obtain ⟨v', xss, hcs, hsl, hlen, _, hx⟩ := trod_slW Tryz.underlying23 Tryz.cellsTx13 (by decide) hn
  have e : v' = .slice a len cap := by simpa [Value.cells] using hcs.symm
  obtain ⟨l, rfl, hl⟩ := exists_map (f := TL.vals) (p := fun p => p.at 6 K.rc w ∧ p.sz) xss (fun xs hxs => by
    obtain ⟨_, n, y, h, hq⟩ := hx xs hxs
    exact openT_one h (fun q hm => hwt q (hq q hm)))
  rw [e] at hsl
  obtain ⟨a', cap', he, hshape⟩ := hsl.shape (n := l.length) (by simp)
  simp only [Value.slice.injEq] at he
  obtain ⟨rfl, rfl, rfl⟩ := he
  exact ⟨l, a, cap, rfl, ⟨hsl, fun p hp => (hl p hp).1⟩, by simpa using hlen, fun p hp => (hl p hp).2⟩
end

end Go.Proofs.YtdgalkljngigeaaGreat

/-
A ref and cells of the arguments, opened.
-/
namespace Go.Proofs.YtdgalkljngigeaaGreat
open Go.RowKit Go.ChangeShapes Go.WideShapes Go.ChangeAt

theorem Tryz.flatKey22 : flat Tryz.prog 4 47 = some [30, 30, 45] := by kernel_rfl
section
variable {H : Type} {enc : TypeId × Value → H} {w : World} {base : Nat} {spare : Nat → Bool} {held : Bool} {r : Reach} {base2 : Nat} {v : Value} {d : DataW H} {ps : List MemPlace}
set_option maxRecDepth 20000 in
theorem openG_key22 (h : DataW.Trod enc Tryz.prog w base spare held 47 v d ps) (hv : Value.okWide Tryz.prog w r base2 47 v) :
    ∃ (o u : Int) (l : List K) (a : Option Addr) (c : Nat), v = .agg #[.int .u32 o, .int .u32 u, .slice a l.length c] ∧ (B32 o ∧ B32 u) ∧ Sl w (.slice a l.length c) 6 (l.map K.rc) ∧ l.length ≤ 9223372036854775807 ∧ ∀ c ∈ l, c.wk := by
  obtain ⟨cs, rfl, _⟩ := okWide_struct Tryz.underlying47 hv
  obtain ⟨n, hn⟩ := h
  have hl := flat_open 4 _ _ n _ _ Tryz.flatKey22 hn
  have hl' : Lfs enc Tryz.prog w base spare held [30, 30, 45] cs.toList := hl
  obtain ⟨cl, hcl2⟩ : ∃ cl, cs.toList = cl := ⟨_, rfl⟩
  rw [hcl2] at hl'
  match cl, hl' with
  | [c0, c1, c2], ⟨l0, l1, l2, _⟩ =>
    obtain ⟨o, rfl, h0⟩ := l0.int Tryz.underlying30
    obtain ⟨u, rfl, h1⟩ := l1.int Tryz.underlying30
    obtain ⟨l, a, c, rfl, q1, q2, q3⟩ := l2.rowE
    exact ⟨o, u, l, a, c, by rw [show cs = #[.int .u32 o, .int .u32 u, .slice a l.length c] from Array.toList_inj.1 hcl2], ⟨wfG_u32 h0, wfG_u32 h1⟩, q1, q2, q3⟩
end
end Go.Proofs.YtdgalkljngigeaaGreat

/-
Closed facts of a great program, each by itself.
-/
namespace Go.Proofs.YtdgalkljngigeaaGreat
open Go.RowKit

theorem cl_laid : laidOutB Tryz.prog = true := by kernel_rfl
theorem cl_rowed : mapsRowed Tryz.prog = true := by kernel_rfl
theorem cl_plain : Tryz.prog.plainKeys = false := by kernel_rfl
theorem cl_heard : Tryz.prog.stopsHeard = true := by kernel_rfl

end Go.Proofs.YtdgalkljngigeaaGreat
