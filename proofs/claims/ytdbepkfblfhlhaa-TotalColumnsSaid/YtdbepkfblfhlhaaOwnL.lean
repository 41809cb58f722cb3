/-
The laws' Own of a list of cells.
-/
import Derived.Test.YtdbepkfblfhlhaaP16
import Derived.Test.YtdbepkfblfhlhaaSumOf
namespace Go.Proofs.Ytdbepkfblfhlhaa
open Go.RowKit

/-- A cell of the document. -/
structure R where
  k : Int
  ty : Int
  n : Int
  x : Int
  y : Int
  s : ByteArray

def R.cells (r : R) : List Value := [.int .u8 r.k, .int .u8 r.ty, .int .i64 r.n, .int .u64 r.x, .int .u64 r.y, .string r.s]
def R.own (r : R) : C := ⟨r.k, r.ty, r.n, r.x.toNat, r.y.toNat, r.s⟩

theorem R.cellsAt {w wr : World} {l : List R} {b o : Nat} (Hc : Hid (∀ i, i < l.length → ∀ j, j < 6 → w.cell? ⟨b, o + i * 6 + j, none⟩ = ((l.map R.cells).getD i [])[j]?)) (hE : Ext w wr) (hb : b < w.heap.size) {k : Nat} (hk : k < l.length) :
    wr.cell? ⟨b, o + k * 6, none⟩ = some (.int .u8 l[k].k) ∧ wr.cell? ⟨b, o + k * 6 + 1, none⟩ = some (.int .u8 l[k].ty) ∧ wr.cell? ⟨b, o + k * 6 + 2, none⟩ = some (.int .i64 l[k].n) ∧
    wr.cell? ⟨b, o + k * 6 + 3, none⟩ = some (.int .u64 l[k].x) ∧ wr.cell? ⟨b, o + k * 6 + 4, none⟩ = some (.int .u64 l[k].y) ∧ wr.cell? ⟨b, o + k * 6 + 5, none⟩ = some (.string l[k].s) := by
  have h := Hc.out k hk
  have e : (l.map R.cells).getD k [] = l[k].cells := by simp [hk]
  rw [e] at h
  have c := hE.cells.1 b
  refine ⟨(c _ hb).trans (h 0 (by omega)), (c _ hb).trans (h 1 (by omega)), (c _ hb).trans (h 2 (by omega)), (c _ hb).trans (h 3 (by omega)), (c _ hb).trans (h 4 (by omega)), (c _ hb).trans (h 5 (by omega))⟩

theorem Try.infoCell : (Try.prog.info? 78).map (fun i => (i.zero, i.size, i.bytes)) = some (some (.agg #[.int .u8 0, .int .u8 0, .int .i64 0, .complex .f64 0 0, .string ByteArray.empty]), 5, 56) := by kernel_rfl

def ownL (l : List R) : List (List Value) := l.map fun r => r.own.cells

set_option maxRecDepth 100000 in set_option maxHeartbeats 1600000 in
theorem ownL_any (l : List R) (v : Value) (w : World) (hl : Sl w v 6 (l.map R.cells)) (hlen : l.length ≤ 400) :
    Calls Try.prog 15 #[v] w fun e w' => ∃ r, e = .returned r ∧ Sl w' r 5 (ownL l) ∧ Ext w w' := by
  obtain ⟨a, cap, rfl, hs⟩ := hl
  simp only [List.length_map] at *
  rcases hs with h0 | ⟨b, o, rfl, hb, hc⟩
  · have : l = [] := by simpa using h0
    subst this
    go_enter Try.func15, Try.ntmps15
    go_wp2
    refine wp_loop_rounds 1 ?_
    rw [rounds_succ]
    go_wp2
    go_ret
    exact ⟨_, rfl, ⟨none, 0, rfl, .inl rfl⟩, Ext.refl _⟩
  · have Hc := Hid.mk' hc
    clear hc
    obtain ⟨i0, hi, hz0, hz1, hz2⟩ := info_parts Try.infoCell
    go_enter Try.func15, Try.ntmps15
    go_wp2
    go_loopw [3, 4] (fun v i wr => ∃ k : Nat, k ≤ l.length ∧ i = .int .i64 k ∧ wr.ownsRow w.heap.size 78 5 v k (ownL (l.take k)).flatten ∧ Ext w wr) (fun _ i _ => l.length - (intOf i).toNat)
    case atStart => exact ⟨0, Nat.zero_le _, rfl, World.ownsRow_nil _ _ _ _, Ext.refl _⟩
    case round =>
      obtain ⟨k, hk, rfl, hown, hE⟩ := hrel
      by_cases hlt : k < l.length
      · obtain ⟨f0, f1, f2, f3, f4, f5⟩ := R.cellsAt Hc hE hb hlt
        obtain ⟨r, hr⟩ : ∃ r, r = l[k] := ⟨_, rfl⟩
        rw [← hr] at f0 f1 f2 f3 f4 f5
        have HR := Hid.mk' hr
        clear hr
        have HE := Hid.mk' hE
        clear hE
        go_wp2_with (first
          | (go_at_call 56; refine (cown_any r.k r.ty r.n r.x r.y r.s _).mono ?_; rintro e w1 ⟨rfl, hb1⟩; have ho1 := owns_ext hown hb1)
          | (at_builtin; refine wpList_append_own _ rfl _ _ 33 rfl w.heap.size 78 i0 _ 5 56 Try.underlying33 hi hz0 hz1 hz2 rfl (by decide) _ _ _ rfl (ho1.alloc _) ⟨_, 0, none⟩ 1 1 r.own.cells rfl rfl ?c1 ?c2 ?c3 ?c4 ?c5 ?_))
        case c1 => exact cells_new _ #[.int .u8 r.k, .int .u8 r.ty, .int .i64 r.n, .complex .f64 r.x.toNat r.y.toNat, .string r.s] _
        case c2 => intro u hu; simp [R.own, C.cells] at hu; rcases hu with rfl | rfl | rfl | rfl | rfl <;> rfl
        case c3 => unfold maxLen; omega
        case c4 => omega
        case c5 => have := (HE.out.trans hb1).size; simp; omega
        · intro v' w2 hown' hgrow _
          have hE2 : Ext w w2 := ((HE.out.trans hb1).alloc _).grown (ho1.alloc _) hgrow
          have hT : ownL (l.take (k + 1)) = ownL (l.take k) ++ [r.own.cells] := by
            rw [List.take_succ_eq_append_getElem hlt, ← HR.out]; simp [ownL]
          have hown2 := Hid.mk' hown'
          have HE2 := Hid.mk' hE2
          have HT := Hid.mk' hT
          clear hown' hgrow hE2 hT
          go_wp2
          go_roundw
          case rel => exact ⟨k + 1, by omega, by go_num, by rw [HT.out, List.flatten_append]; simpa using hown2.out, HE2.out⟩
          case measure => simp [intOf]; omega
      · have hkk : k = l.length := by omega
        subst hkk
        rw [List.take_length] at hown
        have HO := Hid.mk' hown
        have HE := Hid.mk' hE
        clear hown hE
        go_wp2
        go_ret
        refine ⟨_, rfl, Sl.of_owns (base := w.heap.size) (e := 78) (xss := ownL l) ?_ ?_, HE.out⟩
        · have e : (ownL l).length = l.length := by simp [ownL]
          rw [e]; exact HO.out
        · intro xs hxs; simp [ownL] at hxs; obtain ⟨a, _, rfl⟩ := hxs; rfl

end Go.Proofs.Ytdbepkfblfhlhaa
