import Derived.RangeFuncNested
import Derived.RangeFuncBound
import Derived.RangeFuncCalls
import Derived.RangeFuncLeaves
import Derived.RangeFuncBox
import Derived.Shelf.Abstract
import Derived.Shelf.RegionOpen
import Derived.OwnWalkIn
import Derived.TacticsInMore
import Derived.LoopNIn
import Derived.LoopIn
import Derived.RangeFuncOne
import Derived.Test.YtihldginolbooaaGreatDoorP14
import Derived.Test.YtihldginolbooaaGreatDoorP7
import Derived.Test.YtihldginolbooaaGreatDoorP1

/-
The youngest relation of an oid: the program's Last, over slices.Backward.
-/
namespace Go.Proofs.YtihldginolbooaaGreatDoor
open Go.RowKit Go.Shelf
attribute [local go_sem] Oper.semAt_some

theorem owns_kept {A B : World} {row : Option Nat} {base n size : Nat} {e : TypeId} {v : Value} {xs : List Value} (h : A.ownsRow base e size v n xs) (hg : A.grownBy B row) (hr : ∀ r, row = some r → ∃ o : Obj, A.heap[r]? = some o ∧ o.isCells = false) : B.ownsRow base e size v n xs := by
  refine owns_kp h (Kp.of_grown hg) (fun b hb e => ?_)
  obtain ⟨o, ho, hn⟩ := hr b e
  rcases h.2 with ⟨rfl, _⟩ | ⟨g, cap, cur, rfl, hbg, hh, _⟩
  · simp [Value.ownBlock] at hb
  · simp [Value.ownBlock] at hb; subst hb
    rw [hh] at ho; cases ho; simp [Obj.isCells] at hn

/-- What Last leaves in its two results' cells. -/
structure LastAt (N : Nat) (w W : World) (q : RR) : Prop where
  c0 : W.cell? ⟨w.heap.size + 1, 0, none⟩ = some (.int .u32 q.r.oid)
  c1 : W.cell? ⟨w.heap.size + 1, 1, none⟩ = some (.int .u32 q.r.ver)
  c2 : W.cell? ⟨w.heap.size + 1, 2, none⟩ = some (.string q.r.nm)
  c3 : W.cell? ⟨w.heap.size + 1, 3, none⟩ = some (.int .u8 q.r.id)
  c4 : W.cell? ⟨w.heap.size + 1, 4, none⟩ = some (.slice q.a q.r.cols.length q.c)
  b : W.cell? ⟨w.heap.size + 1 + 1, 0, none⟩ = some (.bool true)
  own : q.owned N W
theorem LastAt.kept {N : Nat} {w A B : World} {q : RR} {row : Option Nat} (h : LastAt N w A q) (hg : A.grownBy B row) (hr : ∀ r, row = some r → ∃ o : Obj, A.heap[r]? = some o ∧ o.isCells = false) : LastAt N w B q :=
  ⟨cell_kept h.c0 hg hr, cell_kept h.c1 hg hr, cell_kept h.c2 hg hr, cell_kept h.c3 hg hr, cell_kept h.c4 hg hr, cell_kept h.b hg hr, owns_kept h.own hg hr⟩

end Go.Proofs.YtihldginolbooaaGreatDoor

/-
A range over an iterator that hands out what it has laid down itself: the iterator's word tells of each thing handed out what the memory holds then; a loop whose body always goes on.
-/
namespace Go.Proofs.YtihldginolbooaaGreatDoor
open Go.RowKit

variable {F : Fence} {n : Nat} {P : Program}

end Go.Proofs.YtihldginolbooaaGreatDoor


/-
All relations of a catalog, handed out one after the other: the program's All; the laws' Back.
-/
namespace Go.Proofs.YtihldginolbooaaGreatDoor
open Go.RowKit Go.Shelf
attribute [local go_sem] Oper.semAt_some

end Go.Proofs.YtihldginolbooaaGreatDoor

/-
The laws' Back of a relation.
-/
namespace Go.Proofs.YtihldginolbooaaGreatDoor
open Go.RowKit

theorem Tryz.infoRCol : (Tryz.prog.info? 93).map (fun i => (i.zero, i.size, i.bytes)) = some (some (.agg #[.string ByteArray.empty, .int .u8 0, .bool false]), 3, 24) := by kernel_rfl

set_option maxRecDepth 100000 in set_option maxHeartbeats 1600000 in
theorem back8_any (oid ver : Int) (nm : ByteArray) (id : Int) (cols : List Col) (a : Option Addr) (cap : Nat) (w : World) (hl : Sl w (.slice a cols.length cap) 3 (cols.map Col.cells)) (hlen : cols.length ≤ 1000) :
    Calls Tryz.prog 41 #[.agg #[.int .u32 oid, .int .u32 ver, .string nm, .int .u8 id, .slice a cols.length cap]] w fun e w' => ∃ a' cap', e = .returned (.agg #[.int .u32 oid, .int .u32 ver, .string nm, .int .u8 id, .slice a' cols.length cap']) ∧ cols.length ≤ cap' ∧ w'.ownsRow w.heap.size 93 3 (.slice a' cols.length cap') cols.length (cols.map Col.cells).flatten ∧ Ext w w' := by
  have HL := Hid.mk' hl
  clear hl
  obtain ⟨i0, hi, hz0, hz1, hz2⟩ := info_parts Tryz.infoRCol
  go_enter Tryz.func41, Tryz.ntmps41
  go_wp2
  go_loopw [4] (fun i wr => ∃ (k : Nat) (v : Value), k ≤ cols.length ∧ i = .int .i64 k ∧ Hid (wr.ownsRow (w.heap.size + 3) 93 3 v k ((cols.map Col.cells).take k).flatten) ∧ Blk wr w.heap.size #[.int .u32 oid, .int .u32 ver, .string nm, .int .u8 id, .slice a cols.length cap] 49 ∧ Blk wr (w.heap.size + 1) #[.int .u32 0, .int .u32 0, .string ⟨#[]⟩, .int .u8 0, .slice none 0 0] 29 ∧ Blk wr (w.heap.size + 1 + 1) #[.int .u32 oid, .int .u32 ver, .string nm, .int .u8 id, v] 29 ∧ Hid (Ext w wr)) (fun i _ => cols.length - (intOf i).toNat)
  case atStart => exact ⟨0, .slice none 0 0, Nat.zero_le _, rfl, World.ownsRow_nil _ _ _ _, ((Blk.new _ _ _).alloc _).alloc _, (Blk.new' _ _ (by simp)).alloc _, Blk.new' _ _ (by simp), Hid.mk' (by exact eX)⟩
  case round =>
    obtain ⟨k, v, hk, rfl, hown, hB0, hB1, hB2, hE⟩ := hrel
    by_cases hlt : k < cols.length
    · obtain ⟨b, o, rfl, hb, hc⟩ := HL.out.at_ (i := k) (by simpa using hlt)
      obtain ⟨f0, f1, f2⟩ := Col.at_ hlt hc hb hE.out
      have hT := Hid.mk' (flat_snoc (f := Col.cells) hlt)
      obtain ⟨c, hcc⟩ : ∃ c, c = cols[k] := ⟨_, rfl⟩
      rw [← hcc] at f0 f1 f2 hT
      have hbw : b < wr.heap.size := Nat.lt_of_lt_of_le hb hE.out.size
      have HC := Hid.mk' hcc
      clear hcc hc
      have g0 := hB0.cell
      have g2 := hB2.cell
      have z0 := hB0.lt
      have z1 := hB1.lt
      have z2 := hB2.lt
      have HB0 := Hid.mk' hB0
      have HB1 := Hid.mk' hB1
      have HB2 := Hid.mk' hB2
      clear hB0 hB1 hB2
      go_wp2
      refine wp_region_head 22 (fun w' => Ext (wr) w' ∧ (∀ b o, b < (wr).heap.size → w'.cell? ⟨b, o, none⟩ = (wr).cell? ⟨b, o, none⟩) ∧ (∀ b o, b < (wr).heap.size → w'.frozen? ⟨b, o, none⟩ = (wr).frozen? ⟨b, o, none⟩)) (by kernel_rfl) (by decide) ?_
      have hA0 : Hid ((fun w' => Ext (wr) w' ∧ (∀ b o, b < (wr).heap.size → w'.cell? ⟨b, o, none⟩ = (wr).cell? ⟨b, o, none⟩) ∧ (∀ b o, b < (wr).heap.size → w'.frozen? ⟨b, o, none⟩ = (wr).frozen? ⟨b, o, none⟩)) wr.drew) := held_of (by exact eX)
      (refine wpHd_take (i := 0) (v := ?_) rfl (by kernel_rfl) (by kernel_rfl) (by kernel_rfl) (fun _ _ _ h => h) (Or.inl ⟨by rfl, ?_⟩) hA0.out ?_; rotate_left 1; · (intro w' hS'; (obtain ⟨hEs', hcs', hfs'⟩ := hS'); go_simp; try with_reducible rfl))
      (refine wpHd_take (i := 1) (v := ?_) rfl (by kernel_rfl) (by kernel_rfl) (by kernel_rfl) (fun _ _ _ h => h) (Or.inl ⟨by rfl, ?_⟩) hA0.out ?_; rotate_left 1; · (intro w' hS'; (obtain ⟨hEs', hcs', hfs'⟩ := hS'); go_simp; try with_reducible rfl))
      (refine wpHd_take (i := 2) (v := ?_) rfl (by kernel_rfl) (by kernel_rfl) (by kernel_rfl) (fun _ _ _ h => h) (Or.inl ⟨by rfl, ?_⟩) hA0.out ?_; rotate_left 1; · (intro w' hS'; (obtain ⟨hEs', hcs', hfs'⟩ := hS'); go_simp; try with_reducible rfl))
      (refine wpHd_take (i := 3) (v := ?_) rfl (by kernel_rfl) (by kernel_rfl) (by kernel_rfl) (fun _ _ _ h => h) (Or.inl ⟨by rfl, ?_⟩) hA0.out ?_; rotate_left 1; · (intro w' hS'; (obtain ⟨hEs', hcs', hfs'⟩ := hS'); go_simp; try with_reducible rfl))
      (refine wpHd_take (i := 4) (v := ?_) rfl (by kernel_rfl) (by kernel_rfl) (by kernel_rfl) (fun _ _ _ h => h) (Or.inl ⟨by rfl, ?_⟩) hA0.out ?_; rotate_left 1; · (intro w' hS'; (obtain ⟨hEs', hcs', hfs'⟩ := hS'); go_simp; try with_reducible rfl))
      (refine wpHd_take (i := 5) (v := ?_) rfl (by kernel_rfl) (by kernel_rfl) (by kernel_rfl) (fun _ _ _ h => h) (Or.inl ⟨by rfl, ?_⟩) hA0.out ?_; rotate_left 1; · (intro w' hS'; (obtain ⟨hEs', hcs', hfs'⟩ := hS'); go_simp; try with_reducible rfl))
      (refine wpHd_take (i := 6) (v := ?_) rfl (by kernel_rfl) (by kernel_rfl) (by kernel_rfl) (fun _ _ _ h => h) (Or.inl ⟨by rfl, ?_⟩) hA0.out ?_; rotate_left 1; · (intro w' hS'; (obtain ⟨hEs', hcs', hfs'⟩ := hS'); go_simp; try with_reducible rfl))
      (refine wpHd_take (i := 7) (v := ?_) rfl (by kernel_rfl) (by kernel_rfl) (by kernel_rfl) (fun _ _ _ h => h) (Or.inl ⟨by rfl, ?_⟩) hA0.out ?_; rotate_left 1; · (intro w' hS'; (obtain ⟨hEs', hcs', hfs'⟩ := hS'); go_simp; try with_reducible rfl))
      (refine wpHd_take (i := 8) (v := ?_) rfl (by kernel_rfl) (by kernel_rfl) (by kernel_rfl) (fun _ _ _ h => h) (Or.inl ⟨by rfl, ?_⟩) hA0.out ?_; rotate_left 1; · (intro w' hS'; (obtain ⟨hEs', hcs', hfs'⟩ := hS'); go_simp; try with_reducible rfl))
      (refine wpHd_take (i := 9) (v := ?_) rfl (by kernel_rfl) (by kernel_rfl) (by kernel_rfl) (fun _ _ _ h => h) (Or.inl ⟨by rfl, ?_⟩) hA0.out ?_; rotate_left 1; · (intro w' hS'; (obtain ⟨hEs', hcs', hfs'⟩ := hS'); go_simp; try with_reducible rfl))
      (refine wpHd_take (i := 10) (v := ?_) rfl (by kernel_rfl) (by kernel_rfl) (by kernel_rfl) (fun _ _ _ h => h) (Or.inl ⟨by rfl, ?_⟩) hA0.out ?_; rotate_left 1; · (intro w' hS'; (obtain ⟨hEs', hcs', hfs'⟩ := hS'); go_simp; try with_reducible rfl))
      (refine wpHd_take (i := 11) (v := ?_) rfl (by kernel_rfl) (by kernel_rfl) (by kernel_rfl) (fun _ _ _ h => h) (Or.inl ⟨by rfl, ?_⟩) hA0.out ?_; rotate_left 1; · (intro w' hS'; (obtain ⟨hEs', hcs', hfs'⟩ := hS'); go_simp; try with_reducible rfl))
      (refine wpHd_take (i := 12) (v := ?_) rfl (by kernel_rfl) (by kernel_rfl) (by kernel_rfl) (fun _ _ _ h => h) (Or.inl ⟨by rfl, ?_⟩) hA0.out ?_; rotate_left 1; · (intro w' hS'; (obtain ⟨hEs', hcs', hfs'⟩ := hS'); go_simp; try with_reducible rfl))
      (refine wpHd_take (i := 13) (v := ?_) rfl (by kernel_rfl) (by kernel_rfl) (by kernel_rfl) (fun _ _ _ h => h) (Or.inl ⟨by rfl, ?_⟩) hA0.out ?_; rotate_left 1; · (intro w' hS'; (obtain ⟨hEs', hcs', hfs'⟩ := hS'); go_simp; try with_reducible rfl))
      (refine wpHd_take (i := 14) (v := ?_) rfl (by kernel_rfl) (by kernel_rfl) (by kernel_rfl) (fun _ _ _ h => h) (Or.inl ⟨by rfl, ?_⟩) hA0.out ?_; rotate_left 1; · (intro w' hS'; (obtain ⟨hEs', hcs', hfs'⟩ := hS'); go_simp; try with_reducible rfl))
      (refine wpHd_take (i := 15) (v := ?_) rfl (by kernel_rfl) (by kernel_rfl) (by kernel_rfl) (fun _ _ _ h => h) (Or.inl ⟨by rfl, ?_⟩) hA0.out ?_; rotate_left 1; · (intro w' hS'; (obtain ⟨hEs', hcs', hfs'⟩ := hS'); go_simp; try with_reducible rfl))
      (refine wpHd_take (i := 16) (v := ?_) rfl (by kernel_rfl) (by kernel_rfl) (by kernel_rfl) (fun _ _ _ h => h) (Or.inl ⟨by rfl, ?_⟩) hA0.out ?_; rotate_left 1; · (intro w' hS'; (obtain ⟨hEs', hcs', hfs'⟩ := hS'); go_simp; try with_reducible rfl))
      (refine wpHd_take (i := 17) (v := ?_) rfl (by kernel_rfl) (by kernel_rfl) (by kernel_rfl) (fun _ _ _ h => h) (Or.inl ⟨by rfl, ?_⟩) hA0.out ?_; rotate_left 1; · (intro w' hS'; (obtain ⟨hEs', hcs', hfs'⟩ := hS'); go_simp; try with_reducible rfl))
      (refine wpHd_take (i := 18) (v := ?_) rfl (by kernel_rfl) (by kernel_rfl) (by kernel_rfl) (fun _ _ _ h => h) (Or.inl ⟨by rfl, ?_⟩) hA0.out ?_; rotate_left 1; · (intro w' hS'; (obtain ⟨hEs', hcs', hfs'⟩ := hS'); go_simp; try with_reducible rfl))
      (refine wpHd_take (i := 19) (v := ?_) rfl (by kernel_rfl) (by kernel_rfl) (by kernel_rfl) (fun _ _ _ h => h) (Or.inl ⟨by rfl, ?_⟩) hA0.out ?_; rotate_left 1; · (intro w' hS'; (obtain ⟨hEs', hcs', hfs'⟩ := hS'); go_simp; try with_reducible rfl))
      (refine wpHd_take (i := 20) (v := ?_) rfl (by kernel_rfl) (by kernel_rfl) (by kernel_rfl) (fun _ _ _ h => h) (Or.inl ⟨by rfl, ?_⟩) hA0.out ?_; rotate_left 1; · (intro w' hS'; (obtain ⟨hEs', hcs', hfs'⟩ := hS'); go_simp; try with_reducible rfl))
      refine wpHd_one (i := 21) rfl rfl (by kernel_rfl) (fun K hK => ?_)
      go_simp
      refine hK.out _ _ (held_of (by exact eX)) (fun hA => ?_)
      clear hK K hA hA0
      refine wpHd_tail (by kernel_rfl) ?_
      simp only [List.drop_succ_cons, List.drop_zero]
      have hob := owns_ne hown.out (show w.heap.size + 1 + 1 < w.heap.size + 3 by omega)
      go_wp2_with (at_builtin; refine wpList_append_lies _ rfl _ _ 27 rfl (w.heap.size + 3) 93 i0 _ 3 24 Tryz.underlying27 hi hz0 hz1 hz2 rfl (by decide) _ _ _ rfl (owns_ext hown.out (by exact eX)) ⟨_, 0, none⟩ 1 1 c.cells rfl rfl ?c1 ?c2 (by decide) ?c3 ?c4 ?c5 _ rfl ?_)
      case c1 => exact cells_new _ #[.string c.nm, .int .u8 c.ty, .bool c.key] _
      case c2 => intro u hu; simp [Col.cells] at hu; rcases hu with rfl | rfl | rfl <;> rfl
      case c3 => unfold maxLen; omega
      case c4 => omega
      case c5 => simp; omega
      intro g' cap' w2 hown' hgrow _ _
      have hE1 : Ext wr (wr.drew.alloc (.cells #[.string c.nm, .int .u8 c.ty, .bool c.key] 93)) := by exact eX
      have HE2 : Hid (Ext w w2) := Hid.mk' (Below.grown (hE.out.trans hE1) hgrow (hE.out.trans hE1).size (fun g hg => by have := (hown.out.lt g hg).1; omega))
      have hsz2 := hgrow.size
      have HB0' := Hid.mk' ((HB0.out.ext hE1).grown hgrow (owns_ne hown.out (by omega)))
      have HB1' := Hid.mk' ((HB1.out.ext hE1).grown hgrow (owns_ne hown.out (by omega)))
      have hB2' := (HB2.out.ext hE1).grown hgrow hob
      have g2' := hB2'.cell
      have g2f := hB2'.frozen
      have z2' := hB2'.lt
      have HB2' := Hid.mk' hB2'
      have HO := Hid.mk' hown'
      clear hB2' hown' hgrow hE1 hob
      go_wp2
      go_roundw
      case rel => exact ⟨k + 1, _, by omega, by go_num, Hid.mk' (by rw [hT.out]; exact owns_set (p := ⟨w.heap.size + 1 + 1, 4, none⟩) HO.out (by show w.heap.size + 1 + 1 < _; omega) _), HB0'.out.other _ _ (by show w.heap.size ≠ w.heap.size + 1 + 1; omega), HB1'.out.other _ _ (by show w.heap.size + 1 ≠ w.heap.size + 1 + 1; omega), HB2'.out.set 4 _, Hid.mk' (HE2.out.setCell (by simp; omega) _)⟩
      case measure => simp [intOf]; omega
    · have hkk : k = cols.length := by omega
      subst hkk
      rw [show cols.length = (cols.map Col.cells).length by simp, List.take_length] at hown
      rw [List.length_map] at hown
      obtain ⟨a', c', rfl⟩ := owns_shape hown.out
      have g0 := hB0.cell
      have z0 := hB0.lt
      have g1 := hB1.cell
      have g1f := hB1.frozen
      have g2 := hB2.cell
      have z1 := hB1.lt
      have z2 := hB2.lt
      clear hB0 hB1 hB2
      go_wp2
      simp [bodyPost, results, Tryz.results41, go_sem, *]
      refine ⟨_, _, ⟨rfl, rfl⟩, owns_cap hown.out, owns_base (base := w.heap.size + 3) ?_ (by omega), ?_⟩
      · have hown := hown.out
        repeat (with_reducible (first | exact hown | refine owns_set ?_ (by show w.heap.size + 1 < _; omega) _))
      · have hE := hE.out
        exact eX


def RR.rowned (N : Nat) (W : World) (q : RR) : Prop := W.ownsRow N 93 3 (.slice q.a q.r.cols.length q.c) q.r.cols.length (q.r.cols.map Col.cells).flatten
theorem RR.rowned.in {N : Nat} {W : World} {q : RR} (h : q.rowned N W) : q.in W := Sl.of_owns (base := N) (e := 93) (by rw [List.length_map]; exact h) (by intro xs hxs; simp at hxs; obtain ⟨_, _, rfl⟩ := hxs; rfl)
theorem RR.rowned.at_ {N : Nat} {W : World} {q : RR} (h : q.rowned N W) {b o : Nat} (e : q.a = some ⟨b, o, none⟩) : N ≤ b ∧ b < W.heap.size := h.lt b (by rw [e]; rfl)
theorem RR.rowned.ext {N : Nat} {W W' : World} {q : RR} (h : q.rowned N W) (he : Ext W W') : q.rowned N W' := owns_ext h he
theorem RR.rowned.mono {N M : Nat} {W : World} {q : RR} (h : q.rowned N W) (hm : M ≤ N) : q.rowned M W := owns_base h hm
end Go.Proofs.YtihldginolbooaaGreatDoor


/-
All relations of a catalog, as the document's: the laws' Back.
-/
namespace Go.Proofs.YtihldginolbooaaGreatDoor
open Go.RowKit Go.Shelf
attribute [local go_sem] Oper.semAt_some

theorem run_equalIn_func_nil {P : Program} (w : World) (d : Nat) (t : TypeId) (f : Fn) (xs ys : Array Value) {p : Array TypeId} {r : Array TypeId} {v : Bool} (h : P.underlying t = some (.func p r v)) : (Op.equalIn (d + 1) t (.func f xs ys) .nilFunc).run P w = .ok false w := by
  simp [Op.equalIn, run_underlying h]
@[go_sem] theorem run_eql_func_nil {P : Program} (w : World) (t : TypeId) (f : Fn) (xs ys : Array Value) {p : Array TypeId} {r : Array TypeId} {v : Bool} (h : P.underlying t = some (.func p r v)) : (binOp .eql t (.func f xs ys) .nilFunc).run P w = .ok (.bool false) w := by
  have e : (Op.equal t (.func f xs ys) .nilFunc).run P w = .ok false w := by
    exact run_equalIn_func_nil w 9999 t f xs ys h
  simp [binOp, e]

/-- Relations of the document of the call's own, in a row of its own. -/
structure BkR (W : World) (N : Nat) (rs : List Rl) (v : Value) (qs : List RR) : Prop where
  own : W.ownsRow N 29 5 v qs.length (qs.map RR.cells).flatten
  r : qs.map RR.r = rs
  sl : ∀ q ∈ qs, q.rowned N W
  ne : ∀ q ∈ qs, ∀ b o, q.a = some ⟨b, o, none⟩ → v.ownBlock ≠ some b
theorem BkR.nil (W : World) (N : Nat) : BkR W N [] (.slice none 0 0) [] := ⟨World.ownsRow_nil _ _ _ _, rfl, (fun q h => by cases h), (fun q h => by cases h)⟩
theorem BkR.ext {W W' : World} {N : Nat} {rs : List Rl} {qs : List RR} {v : Value} (h : BkR W N rs v qs) (he : Ext W W') : BkR W' N rs v qs := ⟨owns_ext h.own he, h.r, fun q hq => (h.sl q hq).ext he, h.ne⟩
theorem rowned_kp {S : Nat → Prop} {W W' : World} {N : Nat} {x : RR} (h2 : x.rowned N W) (hk1 : Kp S W W') (h3 : ∀ b o, x.a = some ⟨b, o, none⟩ → ¬ S b) : x.rowned N W' := by
  refine owns_kp h2 hk1 (fun b hb => ?_)
  obtain ⟨xr, xa, xc⟩ := x
  cases xa with
  | none => cases hb
  | some ad =>
    obtain ⟨b', o', sp⟩ := ad
    have hb' : b' = b := by simpa [Value.ownBlock] using hb
    subst hb'
    rcases h2.2 with ⟨hv, -⟩ | ⟨g, cap, cur, hv, -⟩
    · cases hv
    · simp only [Value.slice.injEq, Option.some.injEq, Addr.mk.injEq] at hv
      obtain ⟨⟨rfl, rfl, rfl⟩, -⟩ := hv
      exact h3 _ _ rfl
theorem BkR.kept {W W' : World} {N : Nat} {rs : List Rl} {qs : List RR} {v : Value} {row : Option Nat} (h : BkR W N rs v qs) (hg : W.grownBy W' row) (hr : ∀ r, row = some r → ∃ o : Obj, W.heap[r]? = some o ∧ o.isCells = false) : BkR W' N rs v qs :=
  ⟨owns_kept h.own hg hr, h.r, fun q hq => owns_kept (h.sl q hq) hg hr, h.ne⟩
theorem BkR.set {W : World} {N : Nat} {rs : List Rl} {qs : List RR} {v : Value} (h : BkR W N rs v qs) {p : Addr} (hp : p.block < N) (u : Value) : BkR (W.setCell p u) N rs v qs := ⟨owns_set h.own hp u, h.r, fun q hq => owns_set (h.sl q hq) hp u, h.ne⟩
theorem BkR.push {W W' : World} {N : Nat} {rs : List Rl} {qs : List RR} {v v' : Value} {q : RR} (h : BkR W N rs v qs) (hs : q.rowned N W) (hn : ∀ b o, q.a = some ⟨b, o, none⟩ → v.ownBlock ≠ some b)
    (hg : W.grownBy W' v.ownBlock) (hat : v'.ownBlock = v.ownBlock ∨ v'.ownBlock = some W.heap.size) (ho : W'.ownsRow N 29 5 v' (qs.length + 1) ((qs.map RR.cells).flatten ++ q.cells)) : BkR W' N (rs ++ [q.r]) v' (qs ++ [q]) := by
  have hall : ∀ x ∈ qs ++ [q], x.rowned N W ∧ ∀ b o, x.a = some ⟨b, o, none⟩ → v.ownBlock ≠ some b := fun x hx => by
    rcases List.mem_append.1 hx with hx | hx
    · exact ⟨h.sl x hx, h.ne x hx⟩
    · obtain rfl : x = q := by simpa using hx
      exact ⟨hs, hn⟩
  refine ⟨by simpa using ho, by rw [List.map_append, h.r]; rfl, fun x hx => rowned_kp (hall x hx).1 (Kp.of_grown hg) (hall x hx).2, fun x hx b o e => ?_⟩
  obtain ⟨h2, h3⟩ := hall x hx
  rcases hat with h4 | h4
  · rw [h4]; exact h3 b o e
  · rw [h4]; intro h5; injection h5 with h5
    have := (h2.at_ e).2; omega
theorem BkR.rl {W : World} {N : Nat} {rs : List Rl} {qs : List RR} {v : Value} (h : BkR W N rs v qs) : RL W v qs := ⟨Sl.of_owns (base := N) (e := 29) (by rw [List.length_map]; exact h.own) (RR.len qs), fun q hq => (h.sl q hq).in⟩

end Go.Proofs.YtihldginolbooaaGreatDoor


/-
The awake of the laws of catalogs.
-/
namespace Go.Proofs.YtihldginolbooaaGreatDoor
open Go.RowKit

end Go.Proofs.YtihldginolbooaaGreatDoor
