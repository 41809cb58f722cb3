/-
The laws' Own of a relation and of a row, once more: what they give lies in blocks of their own.
-/
import Derived.Deep.RegionHeld
import Derived.Test.YtdgalkljngigeaaGreatP1
namespace Go.Proofs.YtdgalkljngigeaaGreat
open Go.RowKit

/-- A slice whose block lies from N on, below M. -/
def Fr (W : World) (N M : Nat) (v : Value) (k : Nat) (xss : List (List Value)) : Prop := Sl W v k xss ∧ ∀ b o len cap, v = .slice (some ⟨b, o, none⟩) len cap → N ≤ b ∧ (xss ≠ [] → b < M)
section
variable {W W' : World} {N M k : Nat} {v : Value} {xss : List (List Value)}
theorem Fr.ext (h : Fr W N M v k xss) (he : Ext W W') : Fr W' N M v k xss := ⟨h.1.ext he, h.2⟩
theorem Fr.drew (h : Fr W N M v k xss) : Fr W.drew N M v k xss := h.ext (Ext.refl W).drew
theorem Fr.alloc (h : Fr W N M v k xss) (o : Obj) : Fr (W.alloc o) N M v k xss := h.ext ((Ext.refl W).alloc o)
theorem Fr.set (h : Fr W N M v k xss) {p : Addr} (hp : p.block < N ∨ M ≤ p.block) (u : Value) : Fr (W.setCell p u) N M v k xss := by
  obtain ⟨h1, h2⟩ := h
  refine ⟨?_, h2⟩
  obtain ⟨a, cap, rfl, h⟩ := h1
  refine ⟨a, cap, rfl, ?_⟩
  rcases h with h0 | ⟨b, o, rfl, hb, hx⟩
  · exact .inl h0
  · by_cases h0 : xss = []
    · exact .inl h0
    · have h3 := h2 b o _ _ rfl
      have h4 := h3.2 h0
      have h5 := h3.1
      refine .inr ⟨b, o, rfl, by simpa using hb, fun i hi j hj => ?_⟩
      rw [← hx i hi j hj]
      exact World.cell?_setCell_far _ _ _ _ (by show p.block ≠ b; omega)
theorem Fr.five {X : Nat} {v0 v1 v2 v3 v4 : Value} (h : Fr W N M v k xss) (hp : X < N ∨ M ≤ X) :
    Fr (((((W.setCell ⟨X, 0, none⟩ v0).setCell ⟨X, 1, none⟩ v1).setCell ⟨X, 2, none⟩ v2).setCell ⟨X, 3, none⟩ v3).setCell ⟨X, 4, none⟩ v4) N M v k xss := ((((h.set hp _).set hp _).set hp _).set hp _).set hp _
theorem Fr.sl (h : Fr W N M v k xss) : Sl W v k xss := h.1
theorem Fr.new {a : Option Addr} {n cap : Nat} (h : Sl W (.slice a n cap) k xss) (h2 : ∀ b o, a = some ⟨b, o, none⟩ → N ≤ b) : Fr W N W.heap.size (.slice a n cap) k xss := by
  refine ⟨h, fun b o len c e => ?_⟩
  simp only [Value.slice.injEq] at e
  obtain ⟨rfl, rfl, rfl⟩ := e
  refine ⟨h2 b o rfl, fun h0 => ?_⟩
  obtain ⟨a, c, hv, h⟩ := h
  simp only [Value.slice.injEq] at hv
  obtain ⟨rfl, -, -⟩ := hv
  rcases h with rfl | ⟨b', o', e, hb, -⟩
  · exact absurd rfl h0
  · simp only [Option.some.injEq, Addr.mk.injEq] at e
    rw [e.1]; exact hb
end

set_option maxRecDepth 100000 in set_option maxHeartbeats 1600000 in
theorem own8_new (oid ver : Int) (nm : ByteArray) (id : Int) (cols : List Col) (a : Option Addr) (cap : Nat) (w : World) (hl : Sl w (.slice a cols.length cap) 3 (cols.map Col.cells)) (hlen : cols.length ≤ 1000) :
    Calls Tryz.prog 58 #[.agg #[.int .u32 oid, .int .u32 ver, .string nm, .int .u8 id, .slice a cols.length cap]] w fun e w' => ∃ a' cap', e = .returned (.agg #[.int .u32 oid, .int .u32 ver, .string nm, .int .u8 id, .slice a' cols.length cap']) ∧ cols.length ≤ cap' ∧ Sl w' (.slice a' cols.length cap') 3 (cols.map Col.cells) ∧ (∀ b o, a' = some ⟨b, o, none⟩ → w.heap.size ≤ b) ∧ Ext w w' := by
  have HL := Hid.mk' hl
  clear hl
  obtain ⟨i0, hi, hz0, hz1, hz2⟩ := info_parts Tryz.infoCol
  go_enter Tryz.func58, Tryz.ntmps58
  go_wp2
  go_loopw [4] (fun i wr => ∃ (k : Nat) (v : Value), k ≤ cols.length ∧ i = .int .i64 k ∧ Hid (wr.ownsRow (w.heap.size + 3) 115 3 v k ((cols.map Col.cells).take k).flatten) ∧ Blk wr w.heap.size #[.int .u32 oid, .int .u32 ver, .string nm, .int .u8 id, .slice a cols.length cap] 51 ∧ Blk wr (w.heap.size + 1) #[.int .u32 0, .int .u32 0, .string ⟨#[]⟩, .int .u8 0, .slice none 0 0] 99 ∧ Blk wr (w.heap.size + 1 + 1) #[.int .u32 oid, .int .u32 ver, .string nm, .int .u8 id, v] 99 ∧ Hid (Ext w wr)) (fun i _ => cols.length - (intOf i).toNat)
  case atStart => exact ⟨0, .slice none 0 0, Nat.zero_le _, rfl, World.ownsRow_nil _ _ _ _, ((Blk.new _ _ _).alloc _).alloc _, (Blk.new' _ _ (by simp)).alloc _, Blk.new' _ _ (by simp), Hid.mk' (by exact eX)⟩
  case round =>
    obtain ⟨k, v, hk, rfl, hown, hB0, hB1, hB2, hE⟩ := hrel
    by_cases hlt : k < cols.length
    · obtain ⟨b, o, rfl, hb, hc⟩ := HL.out.at_ (i := k) (by simpa using hlt)
      obtain ⟨f0, f1, f2⟩ := Col.at_ hlt hc hb hE.out
      have hT := Hid.mk' (flat_snoc (f := Col.cells) hlt)
      obtain ⟨c, hcc⟩ : ∃ c, c = cols[k] := ⟨_, rfl⟩
      rw [← hcc] at f0 f1 f2 hT
      have hbw : b < wr.heap.size := Nat.lt_of_lt_of_le hb hE.out.size
      have HC := Hid.mk' hcc
      clear hcc hc
      have g0 := hB0.cell
      have g2 := hB2.cell
      have z0 := hB0.lt
      have z1 := hB1.lt
      have z2 := hB2.lt
      have HB0 := Hid.mk' hB0
      have HB1 := Hid.mk' hB1
      have HB2 := Hid.mk' hB2
      clear hB0 hB1 hB2
      go_wp2
      refine wp_region_head 22 (fun w' => Ext (wr) w' ∧ (∀ b o, b < (wr).heap.size → w'.cell? ⟨b, o, none⟩ = (wr).cell? ⟨b, o, none⟩) ∧ (∀ b o, b < (wr).heap.size → w'.frozen? ⟨b, o, none⟩ = (wr).frozen? ⟨b, o, none⟩)) (by kernel_rfl) (by decide) ?_
      have hA0 : Hid ((fun w' => Ext (wr) w' ∧ (∀ b o, b < (wr).heap.size → w'.cell? ⟨b, o, none⟩ = (wr).cell? ⟨b, o, none⟩) ∧ (∀ b o, b < (wr).heap.size → w'.frozen? ⟨b, o, none⟩ = (wr).frozen? ⟨b, o, none⟩)) wr.drew) := held_of (by exact eX)
      (refine wpHd_take (i := 0) (v := ?_) rfl (by kernel_rfl) (by kernel_rfl) (by kernel_rfl) (fun _ _ _ h => h) (Or.inl ⟨by rfl, ?_⟩) hA0.out ?_; rotate_left 1; · (intro w' hS'; (obtain ⟨hEs', hcs', hfs'⟩ := hS'); go_simp; try with_reducible rfl))
      (refine wpHd_take (i := 1) (v := ?_) rfl (by kernel_rfl) (by kernel_rfl) (by kernel_rfl) (fun _ _ _ h => h) (Or.inl ⟨by rfl, ?_⟩) hA0.out ?_; rotate_left 1; · (intro w' hS'; (obtain ⟨hEs', hcs', hfs'⟩ := hS'); go_simp; try with_reducible rfl))
      (refine wpHd_take (i := 2) (v := ?_) rfl (by kernel_rfl) (by kernel_rfl) (by kernel_rfl) (fun _ _ _ h => h) (Or.inl ⟨by rfl, ?_⟩) hA0.out ?_; rotate_left 1; · (intro w' hS'; (obtain ⟨hEs', hcs', hfs'⟩ := hS'); go_simp; try with_reducible rfl))
      (refine wpHd_take (i := 3) (v := ?_) rfl (by kernel_rfl) (by kernel_rfl) (by kernel_rfl) (fun _ _ _ h => h) (Or.inl ⟨by rfl, ?_⟩) hA0.out ?_; rotate_left 1; · (intro w' hS'; (obtain ⟨hEs', hcs', hfs'⟩ := hS'); go_simp; try with_reducible rfl))
      (refine wpHd_take (i := 4) (v := ?_) rfl (by kernel_rfl) (by kernel_rfl) (by kernel_rfl) (fun _ _ _ h => h) (Or.inl ⟨by rfl, ?_⟩) hA0.out ?_; rotate_left 1; · (intro w' hS'; (obtain ⟨hEs', hcs', hfs'⟩ := hS'); go_simp; try with_reducible rfl))
      (refine wpHd_take (i := 5) (v := ?_) rfl (by kernel_rfl) (by kernel_rfl) (by kernel_rfl) (fun _ _ _ h => h) (Or.inl ⟨by rfl, ?_⟩) hA0.out ?_; rotate_left 1; · (intro w' hS'; (obtain ⟨hEs', hcs', hfs'⟩ := hS'); go_simp; try with_reducible rfl))
      (refine wpHd_take (i := 6) (v := ?_) rfl (by kernel_rfl) (by kernel_rfl) (by kernel_rfl) (fun _ _ _ h => h) (Or.inl ⟨by rfl, ?_⟩) hA0.out ?_; rotate_left 1; · (intro w' hS'; (obtain ⟨hEs', hcs', hfs'⟩ := hS'); go_simp; try with_reducible rfl))
      (refine wpHd_take (i := 7) (v := ?_) rfl (by kernel_rfl) (by kernel_rfl) (by kernel_rfl) (fun _ _ _ h => h) (Or.inl ⟨by rfl, ?_⟩) hA0.out ?_; rotate_left 1; · (intro w' hS'; (obtain ⟨hEs', hcs', hfs'⟩ := hS'); go_simp; try with_reducible rfl))
      (refine wpHd_take (i := 8) (v := ?_) rfl (by kernel_rfl) (by kernel_rfl) (by kernel_rfl) (fun _ _ _ h => h) (Or.inl ⟨by rfl, ?_⟩) hA0.out ?_; rotate_left 1; · (intro w' hS'; (obtain ⟨hEs', hcs', hfs'⟩ := hS'); go_simp; try with_reducible rfl))
      (refine wpHd_take (i := 9) (v := ?_) rfl (by kernel_rfl) (by kernel_rfl) (by kernel_rfl) (fun _ _ _ h => h) (Or.inl ⟨by rfl, ?_⟩) hA0.out ?_; rotate_left 1; · (intro w' hS'; (obtain ⟨hEs', hcs', hfs'⟩ := hS'); go_simp; try with_reducible rfl))
      (refine wpHd_take (i := 10) (v := ?_) rfl (by kernel_rfl) (by kernel_rfl) (by kernel_rfl) (fun _ _ _ h => h) (Or.inl ⟨by rfl, ?_⟩) hA0.out ?_; rotate_left 1; · (intro w' hS'; (obtain ⟨hEs', hcs', hfs'⟩ := hS'); go_simp; try with_reducible rfl))
      (refine wpHd_take (i := 11) (v := ?_) rfl (by kernel_rfl) (by kernel_rfl) (by kernel_rfl) (fun _ _ _ h => h) (Or.inl ⟨by rfl, ?_⟩) hA0.out ?_; rotate_left 1; · (intro w' hS'; (obtain ⟨hEs', hcs', hfs'⟩ := hS'); go_simp; try with_reducible rfl))
      (refine wpHd_take (i := 12) (v := ?_) rfl (by kernel_rfl) (by kernel_rfl) (by kernel_rfl) (fun _ _ _ h => h) (Or.inl ⟨by rfl, ?_⟩) hA0.out ?_; rotate_left 1; · (intro w' hS'; (obtain ⟨hEs', hcs', hfs'⟩ := hS'); go_simp; try with_reducible rfl))
      (refine wpHd_take (i := 13) (v := ?_) rfl (by kernel_rfl) (by kernel_rfl) (by kernel_rfl) (fun _ _ _ h => h) (Or.inl ⟨by rfl, ?_⟩) hA0.out ?_; rotate_left 1; · (intro w' hS'; (obtain ⟨hEs', hcs', hfs'⟩ := hS'); go_simp; try with_reducible rfl))
      (refine wpHd_take (i := 14) (v := ?_) rfl (by kernel_rfl) (by kernel_rfl) (by kernel_rfl) (fun _ _ _ h => h) (Or.inl ⟨by rfl, ?_⟩) hA0.out ?_; rotate_left 1; · (intro w' hS'; (obtain ⟨hEs', hcs', hfs'⟩ := hS'); go_simp; try with_reducible rfl))
      (refine wpHd_take (i := 15) (v := ?_) rfl (by kernel_rfl) (by kernel_rfl) (by kernel_rfl) (fun _ _ _ h => h) (Or.inl ⟨by rfl, ?_⟩) hA0.out ?_; rotate_left 1; · (intro w' hS'; (obtain ⟨hEs', hcs', hfs'⟩ := hS'); go_simp; try with_reducible rfl))
      (refine wpHd_take (i := 16) (v := ?_) rfl (by kernel_rfl) (by kernel_rfl) (by kernel_rfl) (fun _ _ _ h => h) (Or.inl ⟨by rfl, ?_⟩) hA0.out ?_; rotate_left 1; · (intro w' hS'; (obtain ⟨hEs', hcs', hfs'⟩ := hS'); go_simp; try with_reducible rfl))
      (refine wpHd_take (i := 17) (v := ?_) rfl (by kernel_rfl) (by kernel_rfl) (by kernel_rfl) (fun _ _ _ h => h) (Or.inl ⟨by rfl, ?_⟩) hA0.out ?_; rotate_left 1; · (intro w' hS'; (obtain ⟨hEs', hcs', hfs'⟩ := hS'); go_simp; try with_reducible rfl))
      (refine wpHd_take (i := 18) (v := ?_) rfl (by kernel_rfl) (by kernel_rfl) (by kernel_rfl) (fun _ _ _ h => h) (Or.inl ⟨by rfl, ?_⟩) hA0.out ?_; rotate_left 1; · (intro w' hS'; (obtain ⟨hEs', hcs', hfs'⟩ := hS'); go_simp; try with_reducible rfl))
      (refine wpHd_take (i := 19) (v := ?_) rfl (by kernel_rfl) (by kernel_rfl) (by kernel_rfl) (fun _ _ _ h => h) (Or.inl ⟨by rfl, ?_⟩) hA0.out ?_; rotate_left 1; · (intro w' hS'; (obtain ⟨hEs', hcs', hfs'⟩ := hS'); go_simp; try with_reducible rfl))
      (refine wpHd_take (i := 20) (v := ?_) rfl (by kernel_rfl) (by kernel_rfl) (by kernel_rfl) (fun _ _ _ h => h) (Or.inl ⟨by rfl, ?_⟩) hA0.out ?_; rotate_left 1; · (intro w' hS'; (obtain ⟨hEs', hcs', hfs'⟩ := hS'); go_simp; try with_reducible rfl))
      refine wpHd_one (i := 21) rfl rfl (by kernel_rfl) (fun K hK => ?_)
      go_simp
      refine hK.out _ _ (held_of (by exact eX)) (fun hA => ?_)
      clear hK K hA hA0
      refine wpHd_tail (by kernel_rfl) ?_
      simp only [List.drop_succ_cons, List.drop_zero]
      have hob := owns_ne hown.out (show w.heap.size + 1 + 1 < w.heap.size + 3 by omega)
      go_wp2_with (at_builtin; refine wpList_append_lies _ rfl _ _ 97 rfl (w.heap.size + 3) 115 i0 _ 3 24 Tryz.underlying97 hi hz0 hz1 hz2 rfl (by decide) _ _ _ rfl (owns_ext hown.out (by exact eX)) ⟨_, 0, none⟩ 1 1 c.cells rfl rfl ?c1 ?c2 (by decide) ?c3 ?c4 ?c5 _ rfl ?_)
      case c1 => exact cells_new _ #[.string c.nm, .int .u8 c.ty, .bool c.key] _
      case c2 => intro u hu; simp [Col.cells] at hu; rcases hu with rfl | rfl | rfl <;> rfl
      case c3 => unfold maxLen; omega
      case c4 => omega
      case c5 => simp; omega
      intro g' cap' w2 hown' hgrow _ _
      have hE1 : Ext wr (wr.drew.alloc (.cells #[.string c.nm, .int .u8 c.ty, .bool c.key] 115)) := by exact eX
      have HE2 : Hid (Ext w w2) := Hid.mk' (Below.grown (hE.out.trans hE1) hgrow (hE.out.trans hE1).size (fun g hg => by have := (hown.out.lt g hg).1; omega))
      have hsz2 := hgrow.size
      have HB0' := Hid.mk' ((HB0.out.ext hE1).grown hgrow (owns_ne hown.out (by omega)))
      have HB1' := Hid.mk' ((HB1.out.ext hE1).grown hgrow (owns_ne hown.out (by omega)))
      have hB2' := (HB2.out.ext hE1).grown hgrow hob
      have g2' := hB2'.cell
      have g2f := hB2'.frozen
      have z2' := hB2'.lt
      have HB2' := Hid.mk' hB2'
      have HO := Hid.mk' hown'
      clear hB2' hown' hgrow hE1 hob
      go_wp2
      go_roundw
      case rel => exact ⟨k + 1, _, by omega, by go_num, Hid.mk' (by rw [hT.out]; exact owns_set (p := ⟨w.heap.size + 1 + 1, 4, none⟩) HO.out (by show w.heap.size + 1 + 1 < _; omega) _), HB0'.out.other _ _ (by show w.heap.size ≠ w.heap.size + 1 + 1; omega), HB1'.out.other _ _ (by show w.heap.size + 1 ≠ w.heap.size + 1 + 1; omega), HB2'.out.set 4 _, Hid.mk' (HE2.out.setCell (by simp; omega) _)⟩
      case measure => simp [intOf]; omega
    · have hkk : k = cols.length := by omega
      subst hkk
      rw [show cols.length = (cols.map Col.cells).length by simp, List.take_length] at hown
      rw [List.length_map] at hown
      obtain ⟨a', c', rfl⟩ := owns_shape hown.out
      have g0 := hB0.cell
      have z0 := hB0.lt
      have g1 := hB1.cell
      have g1f := hB1.frozen
      have g2 := hB2.cell
      have z1 := hB1.lt
      have z2 := hB2.lt
      clear hB0 hB1 hB2
      go_wp2
      simp [bodyPost, results, Tryz.results58, go_sem, *]
      refine ⟨_, _, ⟨rfl, rfl⟩, owns_cap hown.out, Sl.of_owns (base := w.heap.size + 3) (e := 115) ?_ ?_, fun b o e => by have := (hown.out.lt b (by rw [e]; rfl)).1; omega, ?_⟩
      · have e : (cols.map Col.cells).length = cols.length := by simp
        rw [e]
        have hown := hown.out
        repeat (with_reducible (first | exact hown | refine owns_set ?_ (by show w.heap.size + 1 < _; omega) _))
      · intro xs hxs; simp at hxs; obtain ⟨a, _, rfl⟩ := hxs; rfl
      · have hE := hE.out
        exact eX

set_option maxRecDepth 100000 in set_option maxHeartbeats 1600000 in
theorem ownK_new (l : List K) (a : Option Addr) (cap : Nat) (w : World) (hl : Sl w (.slice a l.length cap) 6 (l.map K.rc)) (hlen : l.length ≤ 1000) :
    Calls Tryz.prog 24 #[.slice a l.length cap] w fun e w' => ∃ a' cap', e = .returned (.slice a' l.length cap') ∧ l.length ≤ cap' ∧ Sl w' (.slice a' l.length cap') 5 (l.map K.pc) ∧ (∀ b o, a' = some ⟨b, o, none⟩ → w.heap.size ≤ b) ∧ Ext w w' := by
  have HL := Hid.mk' hl
  clear hl
  obtain ⟨i0, hi, hz0, hz1, hz2⟩ := info_parts Tryz.infoCellP
  go_enter Tryz.func24, Tryz.ntmps24
  go_wp2
  go_loopw [3, 4] (fun v i wr => ∃ k : Nat, k ≤ l.length ∧ i = .int .i64 k ∧ Hid (wr.ownsRow w.heap.size 124 5 v k ((l.map K.pc).take k).flatten) ∧ Hid (Ext w wr)) (fun _ i _ => l.length - (intOf i).toNat)
  case atStart => exact ⟨0, Nat.zero_le _, rfl, World.ownsRow_nil _ _ _ _, Ext.refl _⟩
  case round =>
    obtain ⟨k, hk, rfl, hown, hE⟩ := hrel
    by_cases hlt : k < l.length
    · obtain ⟨b, o, rfl, hb, hx⟩ := HL.out.at_ (i := k) (by simpa using hlt)
      obtain ⟨f0, f1, f2, f3, f4, f5⟩ := K.rcAt hlt hx hb hE.out
      have hbw : b < wr.heap.size := Nat.lt_of_lt_of_le hb hE.out.size
      have HT := Hid.mk' (flat_snoc (f := K.pc) hlt)
      have HC := Hid.mk' (fun w => cown_any l[k].k l[k].v.ty l[k].v.n l[k].v.x l[k].v.y l[k].v.s w)
      simp only [Int.toNat_natCast] at HC
      obtain ⟨c, hc⟩ : ∃ c, c = l[k] := ⟨_, rfl⟩
      rw [← hc] at f0 f1 f2 f3 f4 f5 HT HC
      clear hc hx
      go_wp2_with (first
        | (go_at_call 52; refine (HC.out _).mono ?_; rintro e w1 ⟨rfl, hb1⟩; have HB1 := Hid.mk' hb1; have hz1' := hb1.size; clear hb1)
        | (at_builtin; refine wpList_append_own _ rfl _ _ 71 rfl w.heap.size 124 i0 _ 5 56 Tryz.underlying71 hi hz0 hz1 hz2 rfl (by decide) _ _ _ rfl ((owns_ext hown.out HB1.out).alloc _) ⟨_, 0, none⟩ 1 1 c.pc rfl rfl ?c1 ?c2 ?c3 ?c4 ?c5 ?_))
      case c1 => exact cells_new _ #[.int .u8 c.k, .int .u8 c.v.ty, .int .i64 c.v.n, .complex .f64 c.v.x c.v.y, .string c.v.s] _
      case c2 => intro u hu; simp [K.pc] at hu; rcases hu with rfl | rfl | rfl | rfl | rfl <;> rfl
      case c3 => unfold maxLen; omega
      case c4 => omega
      case c5 => have := (hE.out.trans HB1.out).size; simp; omega
      · intro v' w2 hown' hgrow _
        have HE2 := Hid.mk' (((hE.out.trans HB1.out).alloc _).grown ((owns_ext hown.out HB1.out).alloc _) hgrow)
        have HO2 := Hid.mk' hown'
        clear hown' hgrow
        go_wp2
        go_roundw
        case rel => exact ⟨k + 1, by omega, by go_num, Hid.mk' (by rw [HT.out]; exact HO2.out), HE2⟩
        case measure => simp [intOf]; omega
    · have hkk : k = l.length := by omega
      subst hkk
      rw [show l.length = (l.map K.pc).length by simp, List.take_length] at hown
      rw [List.length_map] at hown
      obtain ⟨a', c', rfl⟩ := owns_shape hown.out
      go_wp2
      go_ret
      refine ⟨a', c', rfl, owns_cap hown.out, Sl.of_owns (base := w.heap.size) (e := 124) ?_ ?_, fun b o e => (hown.out.lt b (by rw [e]; rfl)).1, hE.out⟩
      · have e : (l.map K.pc).length = l.length := by simp
        rw [e]; exact hown.out
      · intro xs hxs; simp at hxs; obtain ⟨a, _, rfl⟩ := hxs; rfl


theorem own8_fr (oid ver : Int) (nm : ByteArray) (id : Int) (cols : List Col) (a : Option Addr) (cap : Nat) (w : World) (hl : Sl w (.slice a cols.length cap) 3 (cols.map Col.cells)) (hlen : cols.length ≤ 1000) :
    Calls Tryz.prog 58 #[.agg #[.int .u32 oid, .int .u32 ver, .string nm, .int .u8 id, .slice a cols.length cap]] w fun e w' => ∃ a' cap', e = .returned (.agg #[.int .u32 oid, .int .u32 ver, .string nm, .int .u8 id, .slice a' cols.length cap']) ∧ cols.length ≤ cap' ∧ Fr w' w.heap.size w'.heap.size (.slice a' cols.length cap') 3 (cols.map Col.cells) ∧ Ext w w' := by
  refine (own8_new oid ver nm id cols a cap w hl hlen).mono fun e w' h => ?_
  obtain ⟨a', c', h1, h2, h3, h4, h5⟩ := h
  exact ⟨a', c', h1, h2, Fr.new h3 h4, h5⟩
theorem ownK_fr (l : List K) (a : Option Addr) (cap : Nat) (w : World) (hl : Sl w (.slice a l.length cap) 6 (l.map K.rc)) (hlen : l.length ≤ 1000) :
    Calls Tryz.prog 24 #[.slice a l.length cap] w fun e w' => ∃ a' cap', e = .returned (.slice a' l.length cap') ∧ l.length ≤ cap' ∧ Fr w' w.heap.size w'.heap.size (.slice a' l.length cap') 5 (l.map K.pc) ∧ Ext w w' := by
  refine (ownK_new l a cap w hl hlen).mono fun e w' h => ?_
  obtain ⟨a', c', h1, h2, h3, h4, h5⟩ := h
  exact ⟨a', c', h1, h2, Fr.new h3 h4, h5⟩

end Go.Proofs.YtdgalkljngigeaaGreat

/-
Catalogs in plain words: relations in order of their refs.
-/
namespace Go.Proofs.YtdgalkljngigeaaGreat
open Go.RowKit

/-- Is one ref ahead of another one? -/
def aheadP (o1 v1 o2 v2 : Int) : Prop := o1 < o2 ∨ (o1 = o2 ∧ v1 < v2)
instance (o1 v1 o2 v2 : Int) : Decidable (aheadP o1 v1 o2 v2) := by unfold aheadP; infer_instance
def aheadB (o1 v1 o2 v2 : Int) : Bool := decide (aheadP o1 v1 o2 v2)
def cmpI (a b : Int) : Int := if a < b then -1 else if b < a then 1 else 0
/-- What Compare answers. -/
def cmpR (o1 v1 o2 v2 : Int) : Int := if cmpI o1 o2 ≠ 0 then cmpI o1 o2 else cmpI v1 v2
theorem cmpR_neg {o1 v1 o2 v2 : Int} : cmpR o1 v1 o2 v2 < 0 ↔ aheadP o1 v1 o2 v2 := by
  unfold cmpR cmpI aheadP
  (repeat' split) <;> omega
theorem cmpR_zero {o1 v1 o2 v2 : Int} : cmpR o1 v1 o2 v2 = 0 ↔ o1 = o2 ∧ v1 = v2 := by
  unfold cmpR cmpI
  (repeat' split) <;> omega
theorem cmpR_cases (o1 v1 o2 v2 : Int) : cmpR o1 v1 o2 v2 = -1 ∨ cmpR o1 v1 o2 v2 = 0 ∨ cmpR o1 v1 o2 v2 = 1 := by
  unfold cmpR cmpI
  (repeat' split) <;> omega
theorem ahead_trans {a b c d e f : Int} (h : aheadP a b c d) (k : aheadP c d e f) : aheadP a b e f := by unfold aheadP at *; omega
theorem ahead_irr {a b : Int} : ¬ aheadP a b a b := by unfold aheadP; omega
theorem ahead_tri (a b c d : Int) : aheadP a b c d ∨ (a = c ∧ b = d) ∨ aheadP c d a b := by unfold aheadP; omega

def Rl.lt (a b : Rl) : Prop := aheadP a.oid a.ver b.oid b.ver
/-- In order of their refs, each ref once. -/
def Srt (l : List Rl) : Prop := l.Pairwise Rl.lt
theorem Srt.at_ {l : List Rl} (h : Srt l) {i j : Nat} (hi : i < l.length) (hj : j < l.length) (hij : i < j) : l[i].lt l[j] := List.pairwise_iff_getElem.1 h i j hi hj hij
theorem Srt.take {l : List Rl} (h : Srt l) (k : Nat) : Srt (l.take k) := List.Pairwise.sublist (List.take_sublist k l) h
theorem Srt.nil : Srt [] := List.Pairwise.nil

/-- How many stand ahead of a ref: the first place that does not. -/
def posR (o v : Int) : List Rl → Nat
  | [] => 0
  | r :: l => if aheadP r.oid r.ver o v then posR o v l + 1 else 0
theorem posR_le (o v : Int) : ∀ l, posR o v l ≤ l.length
  | [] => Nat.le_refl _
  | r :: l => by
    have := posR_le o v l
    unfold posR
    split
    · rw [List.length_cons]; omega
    · exact Nat.zero_le _
theorem posR_lt (o v : Int) : ∀ (l : List Rl) (i : Nat) (h : i < l.length), i < posR o v l → aheadP l[i].oid l[i].ver o v
  | [], i, h, _ => absurd h (Nat.not_lt_zero _)
  | r :: l, i, h, hi => by
    unfold posR at hi
    split at hi
    · rename_i hr
      cases i with
      | zero => exact hr
      | succ i => exact posR_lt o v l i (by simpa using h) (by omega)
    · omega
theorem posR_at (o v : Int) : ∀ (l : List Rl) (h : posR o v l < l.length), ¬ aheadP (l[posR o v l]'h).oid (l[posR o v l]'h).ver o v
  | [], h => absurd h (Nat.not_lt_zero _)
  | r :: l, h => by
    by_cases hr : aheadP r.oid r.ver o v
    · have e : posR o v (r :: l) = posR o v l + 1 := if_pos hr
      have h2 : posR o v l < l.length := by rw [e] at h; simpa using h
      have := posR_at o v l h2
      simp only [e, List.getElem_cons_succ]
      exact this
    · have e : posR o v (r :: l) = 0 := if_neg hr
      simp only [e, List.getElem_cons_zero]
      exact hr
/-- Of relations in order: the place at which what is ahead ends. -/
theorem posR_of {o v : Int} {l : List Rl} {i : Nat} (hi : i ≤ l.length) (h1 : ∀ j (h : j < l.length), j < i → aheadP l[j].oid l[j].ver o v) (h2 : ∀ h : i < l.length, ¬ aheadP l[i].oid l[i].ver o v) : posR o v l = i := by
  have hle := posR_le o v l
  rcases Nat.lt_trichotomy (posR o v l) i with h | h | h
  · exact absurd (h1 _ (by omega) h) (posR_at o v l (by omega))
  · exact h
  · exact absurd (posR_lt o v l i (by omega) h) (h2 (by omega))
theorem Srt.not_ahead {l : List Rl} (h : Srt l) {o v : Int} {i : Nat} (hi : i < l.length) (hp : posR o v l ≤ i) : ¬ aheadP l[i].oid l[i].ver o v := by
  rcases Nat.eq_or_lt_of_le hp with e | hlt
  · subst e; exact posR_at o v l hi
  · intro hq
    have h1 := h.at_ (i := posR o v l) (by omega) hi hlt
    exact posR_at o v l (by omega) (ahead_trans h1 hq)

/-- Is it there, by a ref? -/
def isR (o v : Int) (r : Rl) : Bool := decide (r.oid = o ∧ r.ver = v)
def hasR (o v : Int) (l : List Rl) : Bool := l.any (isR o v)
def getR (o v : Int) (l : List Rl) : Option Rl := l.find? (isR o v)
theorem hasR_at {o v : Int} {l : List Rl} {i : Nat} (hi : i < l.length) (h : l[i].oid = o ∧ l[i].ver = v) : hasR o v l = true := List.any_eq_true.2 ⟨l[i], List.getElem_mem hi, by unfold isR; simpa using h⟩
theorem hasR_no {o v : Int} {l : List Rl} (h : ∀ i (hi : i < l.length), ¬ (l[i].oid = o ∧ l[i].ver = v)) : hasR o v l = false := by
  unfold hasR
  rw [List.any_eq_false]
  intro x hx
  obtain ⟨i, hi, rfl⟩ := List.getElem_of_mem hx
  unfold isR
  simpa using h i hi
/-- In order, it is there just if it stands at its place. -/
theorem Srt.has {l : List Rl} (h : Srt l) (o v : Int) : hasR o v l = decide (∃ hi : posR o v l < l.length, (l[posR o v l]'hi).oid = o ∧ (l[posR o v l]'hi).ver = v) := by
  by_cases hp : ∃ hi : posR o v l < l.length, (l[posR o v l]'hi).oid = o ∧ (l[posR o v l]'hi).ver = v
  · obtain ⟨hi, hq⟩ := hp
    rw [hasR_at hi hq]
    exact (decide_eq_true ⟨hi, hq⟩).symm
  · rw [hasR_no]
    · exact (decide_eq_false hp).symm
    · rintro i hi ⟨h1, h2⟩
      have hge : posR o v l ≤ i := by
        rcases Nat.lt_or_ge i (posR o v l) with hlt | hge
        · have := posR_lt o v l i hi hlt
          rw [h1, h2] at this
          exact absurd this ahead_irr
        · exact hge
      rcases Nat.eq_or_lt_of_le hge with e | hlt
      · subst e; exact hp ⟨hi, h1, h2⟩
      · have h3 := h.at_ (i := posR o v l) (by omega) hi hlt
        unfold Rl.lt at h3
        rw [h1, h2] at h3
        exact posR_at o v l (by omega) h3
theorem getR_some {o v : Int} {l : List Rl} {r : Rl} (h : getR o v l = some r) : r ∈ l ∧ r.oid = o ∧ r.ver = v := by
  unfold getR at h
  have h1 := List.find?_some h
  unfold isR at h1
  exact ⟨List.mem_of_find?_eq_some h, by simpa using h1⟩
theorem getR_none {o v : Int} {l : List Rl} : getR o v l = none ↔ hasR o v l = false := by
  unfold getR hasR
  rw [List.find?_eq_none, List.any_eq_false]
theorem Srt.uniq {l : List Rl} (h : Srt l) {a b : Rl} (ha : a ∈ l) (hb : b ∈ l) (h1 : a.oid = b.oid) (h2 : a.ver = b.ver) : a = b := by
  obtain ⟨i, hi, rfl⟩ := List.getElem_of_mem ha
  obtain ⟨j, hj, rfl⟩ := List.getElem_of_mem hb
  rcases Nat.lt_trichotomy i j with hij | rfl | hij
  · have := h.at_ hi hj hij
    unfold Rl.lt at this
    rw [h1, h2] at this
    exact absurd this ahead_irr
  · rfl
  · have := h.at_ hj hi hij
    unfold Rl.lt at this
    rw [h1, h2] at this
    exact absurd this ahead_irr
theorem Srt.get_at {l : List Rl} (h : Srt l) {o v : Int} {i : Nat} (hi : i < l.length) (hq : l[i].oid = o ∧ l[i].ver = v) : getR o v l = some l[i] := by
  cases hg : getR o v l with
  | none => rw [getR_none, hasR_at hi hq] at hg; cases hg
  | some r =>
    obtain ⟨h1, h2, h3⟩ := getR_some hg
    rw [h.uniq h1 (List.getElem_mem hi) (by rw [h2, hq.1]) (by rw [h3, hq.2])]

/-- One more, at its place. -/
def insR (l : List Rl) (r : Rl) : List Rl := l.take (posR r.oid r.ver l) ++ r :: l.drop (posR r.oid r.ver l)
theorem insR_len (l : List Rl) (r : Rl) : (insR l r).length = l.length + 1 := by
  have := posR_le r.oid r.ver l
  unfold insR
  rw [List.length_append, List.length_take, List.length_cons, List.length_drop]; omega
theorem insR_mem {l : List Rl} {r x : Rl} : x ∈ insR l r ↔ x = r ∨ x ∈ l := by
  unfold insR
  rw [List.mem_append, List.mem_cons]
  have h : x ∈ l ↔ x ∈ l.take (posR r.oid r.ver l) ∨ x ∈ l.drop (posR r.oid r.ver l) := by rw [← List.mem_append, List.take_append_drop]
  rw [h]
  constructor
  · rintro (h | h | h)
    · exact .inr (.inl h)
    · exact .inl h
    · exact .inr (.inr h)
  · rintro (h | h | h)
    · exact .inr (.inl h)
    · exact .inl h
    · exact .inr (.inr h)
theorem Srt.ins {l : List Rl} (h : Srt l) {r : Rl} (hn : hasR r.oid r.ver l = false) : Srt (insR l r) := by
  have hx : ∀ x ∈ l, ¬ (x.oid = r.oid ∧ x.ver = r.ver) := fun x hx hq => by
    obtain ⟨i, hi, rfl⟩ := List.getElem_of_mem hx
    rw [hasR_at hi hq] at hn; cases hn
  unfold insR Srt
  rw [List.pairwise_append]
  refine ⟨h.take _, ?_, ?_⟩
  · rw [List.pairwise_cons]
    refine ⟨fun x hxd => ?_, List.Pairwise.sublist (List.drop_sublist _ _) h⟩
    obtain ⟨i, hi, rfl⟩ := List.getElem_of_mem hxd
    rw [List.length_drop] at hi
    rw [List.getElem_drop]
    have h1 := h.not_ahead (o := r.oid) (v := r.ver) (i := posR r.oid r.ver l + i) (by omega) (by omega)
    rcases ahead_tri r.oid r.ver (l[posR r.oid r.ver l + i]'(by omega)).oid (l[posR r.oid r.ver l + i]'(by omega)).ver with q | q | q
    · exact q
    · exact absurd ⟨q.1.symm, q.2.symm⟩ (hx _ (List.getElem_mem _))
    · exact absurd q h1
  · intro x hxt y hyd
    have hxr : x.lt r := by
      obtain ⟨i, hi, rfl⟩ := List.getElem_of_mem hxt
      rw [List.length_take] at hi
      rw [List.getElem_take]
      exact posR_lt _ _ l i (by omega) (by omega)
    rcases List.mem_cons.1 hyd with rfl | hy
    · exact hxr
    · have hxl := List.mem_of_mem_take hxt
      obtain ⟨i, hi, rfl⟩ := List.getElem_of_mem hxt
      obtain ⟨j, hj, rfl⟩ := List.getElem_of_mem hy
      rw [List.length_take] at hi
      rw [List.length_drop] at hj
      rw [List.getElem_take, List.getElem_drop]
      exact h.at_ (by omega) (by omega) (by omega)

/-- What adding one answers; what there is then. -/
def addE (l : List Rl) (r : Rl) : Int := if r.right ≠ 0 then r.right else if hasR r.oid r.ver l = true then 9 else if 64 ≤ l.length then 8 else 0
def addL (l : List Rl) (r : Rl) : List Rl := if addE l r = 0 then insR l r else l
theorem addE_zero {l : List Rl} {r : Rl} (h : addE l r = 0) : r.right = 0 ∧ hasR r.oid r.ver l = false ∧ l.length < 64 := by
  unfold addE at h
  by_cases h0 : r.right = 0
  · rw [if_neg (by simpa using h0)] at h
    cases hb : hasR r.oid r.ver l with
    | true => rw [hb, if_pos rfl] at h; cases h
    | false =>
      rw [hb, if_neg (by simp)] at h
      split at h
      · cases h
      · exact ⟨h0, rfl, by omega⟩
  · rw [if_pos h0] at h; exact absurd h h0
/-- A catalog: in order, all right, at most 64. -/
structure CatOk (l : List Rl) : Prop where
  srt : Srt l
  right : ∀ r ∈ l, r.right = 0
  n64 : l.length ≤ 64
theorem CatOk.nil : CatOk [] := ⟨Srt.nil, (fun r h => by cases h), Nat.zero_le _⟩
theorem CatOk.add {l : List Rl} (h : CatOk l) (r : Rl) : CatOk (addL l r) := by
  unfold addL
  split
  · rename_i h0
    obtain ⟨h1, h2, h3⟩ := addE_zero h0
    refine ⟨h.srt.ins h2, fun x hx => ?_, by rw [insR_len]; omega⟩
    rcases insR_mem.1 hx with rfl | hx
    · exact h1
    · exact h.right x hx
  · exact h
theorem addL_mem {l : List Rl} {r x : Rl} (h : x ∈ addL l r) : x = r ∨ x ∈ l := by
  unfold addL at h
  split at h
  · exact insR_mem.1 h
  · exact .inr h

/-- A catalog of the first k relations; what was wrong first. -/
def ofUp (l : List Rl) : Nat → List Rl
  | 0 => []
  | k + 1 => if h : k < l.length then addL (ofUp l k) l[k] else ofUp l k
theorem ofUp_succ {l : List Rl} {k : Nat} (h : k < l.length) : ofUp l (k + 1) = addL (ofUp l k) l[k] := by
  conv => lhs; unfold ofUp
  rw [dif_pos h]
theorem ofUp_ok (l : List Rl) : ∀ k, CatOk (ofUp l k)
  | 0 => CatOk.nil
  | k + 1 => by
    unfold ofUp
    split
    · exact (ofUp_ok l k).add _
    · exact ofUp_ok l k
def ofAt (l : List Rl) (k : Nat) : Int := if h : k < l.length then addE (ofUp l k) l[k] else 0
/-- The place of the first that is wrong, or how many there are. -/
def ofN (l : List Rl) : Nat → Nat
  | 0 => 0
  | k + 1 => if ofN l k < k then ofN l k else if ofAt l k ≠ 0 then k else k + 1

/-- In order, of the same members: the same. -/
theorem Srt.ext {a b : List Rl} (ha : Srt a) (hb : Srt b) (h : ∀ x, x ∈ a ↔ x ∈ b) : a = b := by
  induction a generalizing b with
  | nil =>
    cases b with
    | nil => rfl
    | cons y b => exact absurd ((h y).2 (by simp)) (by simp)
  | cons x a ih =>
    cases b with
    | nil => exact absurd ((h x).1 (by simp)) (by simp)
    | cons y b =>
      obtain ⟨hx, ha'⟩ := List.pairwise_cons.1 ha
      obtain ⟨hy, hb'⟩ := List.pairwise_cons.1 hb
      have exy : x = y := by
        rcases List.mem_cons.1 ((h x).1 (by simp)) with e | hxb
        · exact e
        · rcases List.mem_cons.1 ((h y).2 (by simp)) with e | hya
          · exact e.symm
          · exact absurd (ahead_trans (hx y hya) (hy x hxb)) ahead_irr
      subst exy
      congr 1
      refine ih ha' hb' fun z => ⟨fun hz => ?_, fun hz => ?_⟩
      · rcases List.mem_cons.1 ((h z).1 (List.mem_cons_of_mem _ hz)) with rfl | h2
        · exact absurd (hx z hz) ahead_irr
        · exact h2
      · rcases List.mem_cons.1 ((h z).2 (List.mem_cons_of_mem _ hz)) with rfl | h2
        · exact absurd (hy z hz) ahead_irr
        · exact h2

end Go.Proofs.YtdgalkljngigeaaGreat

/-
Catalogs in memory: what may have been written; relations that lie somewhere; the catalog.
-/
namespace Go.Proofs.YtdgalkljngigeaaGreat
open Go.RowKit

/-- Of the blocks that there were only those of S may have been written. -/
structure Kp (S : Nat → Prop) (w w' : World) : Prop where
  os : w'.os = w.os
  tape : w'.tape = w.tape
  output : w'.output = w.output
  size : w.heap.size ≤ w'.heap.size
  block : ∀ k, k < w.heap.size → ¬ S k → w'.heap[k]? = w.heap[k]?
section
variable {S T : Nat → Prop} {a b c w w' : World}
theorem Kp.refl : Kp S w w := ⟨rfl, rfl, rfl, Nat.le_refl _, fun _ _ _ => rfl⟩
theorem Kp.trans (h : Kp S a b) (k : Kp T b c) (hT : ∀ x, T x → x < a.heap.size → S x) : Kp S a c :=
  ⟨k.os.trans h.os, k.tape.trans h.tape, k.output.trans h.output, Nat.le_trans h.size k.size, fun i hi hs => (k.block i (Nat.lt_of_lt_of_le hi h.size) (fun ht => hs (hT i ht hi))).trans (h.block i hi hs)⟩
theorem Kp.of_ext (h : Ext w w') : Kp S w w' := ⟨h.os, h.tape, h.output, h.size, fun k hk _ => h.block k hk⟩
theorem Kp.ext (hE : Ext w a) (hS : ∀ x, S x → x < a.heap.size → w.heap.size ≤ x) (h : Kp S a b) : Ext w b :=
  Below.trans hE ⟨h.os, h.tape, h.output, h.size, fun k hk => h.block k (Nat.lt_of_lt_of_le hk hE.size) (fun hs => by have := hS k hs (Nat.lt_of_lt_of_le hk hE.size); omega)⟩
theorem Kp.of_grown {row : Option Nat} (h : w.grownBy w' row) : Kp (fun k => row = some k) w w' := ⟨h.os, h.tape, h.output, h.size, fun k hk hs => h.block k hk (fun e => hs e.symm)⟩
theorem Kp.mono (h : Kp S w w') (hs : ∀ x, S x → x < w.heap.size → T x) : Kp T w w' := ⟨h.os, h.tape, h.output, h.size, fun k hk ht => h.block k hk (fun q => ht (hs k q hk))⟩
theorem Kp.set (p : Addr) (u : Value) (h : S p.block) : Kp S w (w.setCell p u) := ⟨rfl, rfl, rfl, by simp [World.setCell], fun k _ hs => Below.heap_setCell _ _ _ _ (fun e => hs (e ▸ h))⟩
theorem Kp.cell (h : Kp S w w') {b : Nat} (hb : b < w.heap.size) (hs : ¬ S b) (o : Nat) : w'.cell? ⟨b, o, none⟩ = w.cell? ⟨b, o, none⟩ := World.cell?_of_block (w := w) (h.block b hb hs)
theorem Blk.kp {g : Nat} {cs : Array Value} {t : TypeId} (h : Blk w g cs t) (k : Kp S w w') (hs : ¬ S g) : Blk w' g cs t := (k.block g h.lt hs).trans h
theorem Sl.kp {x : Option Addr} {n c k : Nat} {xss : List (List Value)} (h : Sl w (.slice x n c) k xss) (hk : Kp S w w') (hs : xss ≠ [] → ∀ b o, x = some ⟨b, o, none⟩ → ¬ S b) : Sl w' (.slice x n c) k xss := by
  obtain ⟨x', c', hv, h⟩ := h
  simp only [Value.slice.injEq] at hv
  obtain ⟨rfl, rfl, rfl⟩ := hv
  rcases h with h | ⟨b, o, rfl, hb, hc⟩
  · exact ⟨_, _, rfl, .inl h⟩
  · by_cases h0 : xss = []
    · exact ⟨_, _, rfl, .inl h0⟩
    · refine ⟨_, _, rfl, .inr ⟨b, o, rfl, Nat.lt_of_lt_of_le hb hk.size, fun i hi j hj => ?_⟩⟩
      rw [← hc i hi j hj]
      exact hk.cell hb (hs h0 b o rfl) _
theorem owns_kp {base n size : Nat} {e : TypeId} {v : Value} {xs : List Value} (h : w.ownsRow base e size v n xs) (hk : Kp S w w') (hs : ∀ b, v.ownBlock = some b → ¬ S b) : w'.ownsRow base e size v n xs := by
  obtain ⟨h1, h2⟩ := h
  refine ⟨h1, ?_⟩
  rcases h2 with h2 | ⟨g, cap, cur, rfl, hg, hh, hr⟩
  · exact .inl h2
  · exact .inr ⟨g, cap, cur, rfl, hg, Blk.kp (g := g) hh hk (hs g rfl), hr⟩
theorem owns_lt3 {base n size : Nat} {e : TypeId} {v : Value} {xs : List Value} (h : w.ownsRow base e size v n xs) {g : Nat} (hg : v.ownBlock = some g) : base ≤ g ∧ g < w.heap.size := h.lt g hg
end

/-- What is known of a relation of the arguments. -/
structure Rl.wb (r : Rl) : Prop where
  nm : r.nm.size ≤ 9223372036854775807
  cs : ∀ c ∈ r.cols, c.nm.size ≤ 9223372036854775807
  n : r.cols.length ≤ 5864062014634
  idn : 0 ≤ r.id
theorem Rl.cols_le {r : Rl} (h : r.right = 0) : r.cols.length ≤ 16 := by
  unfold Rl.right at h
  repeat' split at h
  all_goals first | omega | cases h

/-- A relation that lies somewhere. -/
structure RR where
  r : Rl
  a : Option Addr
  c : Nat
def RR.cells (p : RR) : List Value := [.int .u32 p.r.oid, .int .u32 p.r.ver, .string p.r.nm, .int .u8 p.r.id, .slice p.a p.r.cols.length p.c]
def RR.agg (p : RR) : Value := .agg #[.int .u32 p.r.oid, .int .u32 p.r.ver, .string p.r.nm, .int .u8 p.r.id, .slice p.a p.r.cols.length p.c]
/-- Its columns lie there. -/
def RR.in (W : World) (p : RR) : Prop := Sl W (.slice p.a p.r.cols.length p.c) 3 (p.r.cols.map Col.cells)
theorem RR.in.ext {w w' : World} {p : RR} (h : p.in w) (he : Ext w w') : p.in w' := Sl.ext h he
theorem RR.at_ {w wr : World} {b o : Nat} {l : List RR} {k : Nat} (hk : k < l.length) (hc : ∀ j, j < 5 → w.cell? ⟨b, o + k * 5 + j, none⟩ = ((l.map RR.cells).getD k [])[j]?) (hb : b < w.heap.size) (hE : Ext w wr) :
    wr.cell? ⟨b, o + k * 5, none⟩ = some (.int .u32 l[k].r.oid) ∧ wr.cell? ⟨b, o + k * 5 + 1, none⟩ = some (.int .u32 l[k].r.ver) ∧ wr.cell? ⟨b, o + k * 5 + 2, none⟩ = some (.string l[k].r.nm) ∧ wr.cell? ⟨b, o + k * 5 + 3, none⟩ = some (.int .u8 l[k].r.id) ∧
      wr.cell? ⟨b, o + k * 5 + 4, none⟩ = some (.slice l[k].a l[k].r.cols.length l[k].c) := by
  rw [getD_map RR.cells l hk] at hc
  have c := hE.cells.1 b
  exact ⟨(c _ hb).trans (hc 0 (by omega)), (c _ hb).trans (hc 1 (by omega)), (c _ hb).trans (hc 2 (by omega)), (c _ hb).trans (hc 3 (by omega)), (c _ hb).trans (hc 4 (by omega))⟩
theorem RR.len (l : List RR) : ∀ xs ∈ l.map RR.cells, xs.length = 5 := by
  intro xs hxs
  rw [List.mem_map] at hxs
  obtain ⟨p, _, rfl⟩ := hxs
  rfl
theorem RR.flat_len (l : List RR) : (l.map RR.cells).flatten.length = l.length * 5 := by
  have := flat_length 5 (l.map RR.cells) (RR.len l)
  rwa [List.length_map] at this
theorem RR.one (l : List RR) : ∀ u ∈ (l.map RR.cells).flatten, u.oneCell' = true := by
  intro u hu
  rw [List.mem_flatten] at hu
  obtain ⟨xs, hxs, hu⟩ := hu
  rw [List.mem_map] at hxs
  obtain ⟨p, _, rfl⟩ := hxs
  simp [RR.cells] at hu
  rcases hu with rfl | rfl | rfl | rfl | rfl <;> rfl

/-- Relations in a row. -/
structure RL (W : World) (v : Value) (ps : List RR) : Prop where
  row : Sl W v 5 (ps.map RR.cells)
  sl : ∀ p ∈ ps, p.in W
theorem RL.ext {w w' : World} {v : Value} {ps : List RR} (h : RL w v ps) (he : Ext w w') : RL w' v ps := ⟨h.row.ext he, fun p hp => (h.sl p hp).ext he⟩
theorem RL.nil (w : World) : RL w (.slice none 0 0) [] := ⟨⟨none, 0, rfl, .inl rfl⟩, fun p h => by cases h⟩
theorem RL.shape {w : World} {v : Value} {ps : List RR} (h : RL w v ps) : ∃ a c, v = .slice a ps.length c := by
  obtain ⟨a, c, rfl, -⟩ := h.row.shape (n := ps.length) (by simp)
  exact ⟨a, c, rfl⟩
theorem RL.kp {S : Nat → Prop} {w w' : World} {x : Option Addr} {n c : Nat} {ps : List RR} (h : RL w (.slice x n c) ps) (hk : Kp S w w') (hs : ∀ b o, x = some ⟨b, o, none⟩ → ¬ S b) (hp : ∀ p ∈ ps, p.r.cols ≠ [] → ∀ b o, p.a = some ⟨b, o, none⟩ → ¬ S b) : RL w' (.slice x n c) ps :=
  ⟨h.row.kp hk (fun _ => hs), fun p hq => Sl.kp (h.sl p hq) hk (fun h0 => hp p hq (fun h1 => h0 (by rw [h1]; rfl)))⟩

/-- One more, at its place. -/
def insP (ps : List RR) (q : RR) : List RR := ps.take (posR q.r.oid q.r.ver (ps.map RR.r)) ++ q :: ps.drop (posR q.r.oid q.r.ver (ps.map RR.r))
theorem insP_r (ps : List RR) (q : RR) : (insP ps q).map RR.r = insR (ps.map RR.r) q.r := by
  unfold insP insR
  rw [List.map_append, List.map_cons, List.map_take, List.map_drop]
theorem insP_len (ps : List RR) (q : RR) : (insP ps q).length = ps.length + 1 := by
  have := insR_len (ps.map RR.r) q.r
  rw [← insP_r, List.length_map, List.length_map] at this
  exact this
theorem insP_mem {ps : List RR} {q x : RR} (h : x ∈ insP ps q) : x = q ∨ x ∈ ps := by
  unfold insP at h
  rw [List.mem_append, List.mem_cons] at h
  rcases h with h | h | h
  · exact .inr (List.mem_of_mem_take h)
  · exact .inl h
  · exact .inr (List.mem_of_mem_drop h)
theorem insP_flat (ps : List RR) (q : RR) : ((insP ps q).map RR.cells).flatten = ((ps.map RR.cells).flatten).take (posR q.r.oid q.r.ver (ps.map RR.r) * 5) ++ (q.cells ++ ((ps.map RR.cells).flatten).drop (posR q.r.oid q.r.ver (ps.map RR.r) * 5)) := by
  have hk := posR_le q.r.oid q.r.ver (ps.map RR.r)
  rw [List.length_map] at hk
  unfold insP
  generalize posR q.r.oid q.r.ver (ps.map RR.r) = k at hk ⊢
  have e : (ps.map RR.cells).flatten = ((ps.take k).map RR.cells).flatten ++ ((ps.drop k).map RR.cells).flatten := by
    rw [← List.flatten_append, ← List.map_append, List.take_append_drop]
  have hl : ((ps.take k).map RR.cells).flatten.length = k * 5 := by rw [RR.flat_len, List.length_take]; congr 1; omega
  rw [e, List.take_left' hl, List.drop_left' hl, List.map_append, List.map_cons, List.flatten_append, List.flatten_cons]

/-- The program's catalog: in block g, its row v, both from N on; its relations' columns from N on. -/
structure Ca (W : World) (N g : Nat) (v : Value) (ps : List RR) : Prop where
  ptr : Blk W g #[v] 149
  own : W.ownsRow N 99 5 v ps.length (ps.map RR.cells).flatten
  gN : N ≤ g
  gv : v.ownBlock ≠ some g
  sl : ∀ p ∈ ps, p.in W
  ne : ∀ p ∈ ps, p.r.cols ≠ [] → ∀ b o, p.a = some ⟨b, o, none⟩ → b ≠ g ∧ v.ownBlock ≠ some b ∧ N ≤ b ∧ b < W.heap.size
  ok : CatOk (ps.map RR.r)
  wb : ∀ p ∈ ps, p.r.wb
/-- What adding to it may write. -/
def Ca.S (g : Nat) (v : Value) (k : Nat) : Prop := k = g ∨ v.ownBlock = some k
section
variable {W W' : World} {N g : Nat} {v : Value} {ps : List RR}
theorem Ca.kp {S : Nat → Prop} (h : Ca W N g v ps) (hk : Kp S W W') (h1 : ¬ S g) (h2 : ∀ b, v.ownBlock = some b → ¬ S b) (h3 : ∀ p ∈ ps, p.r.cols ≠ [] → ∀ b o, p.a = some ⟨b, o, none⟩ → ¬ S b) : Ca W' N g v ps :=
  ⟨h.ptr.kp hk h1, owns_kp h.own hk h2, h.gN, h.gv, fun p hp => Sl.kp (h.sl p hp) hk (fun h0 => h3 p hp (fun q => h0 (by rw [q]; rfl))), fun p hp h0 b o e => by
    obtain ⟨q1, q2, q3, q4⟩ := h.ne p hp h0 b o e
    exact ⟨q1, q2, q3, Nat.lt_of_lt_of_le q4 hk.size⟩, h.ok, h.wb⟩
theorem Ca.ext (h : Ca W N g v ps) (he : Ext W W') : Ca W' N g v ps :=
  h.kp (S := fun _ => False) (Kp.of_ext he) (fun h => h) (fun _ _ h => h) (fun _ _ _ _ _ _ h => h)
theorem Ca.rl (h : Ca W N g v ps) : RL W v ps := ⟨Sl.of_owns (base := N) (e := 99) (by rw [List.length_map]; exact h.own) (RR.len ps), h.sl⟩
theorem Ca.shape (h : Ca W N g v ps) : ∃ a c, v = .slice a ps.length c := owns_shape h.own
theorem Ca.n64 (h : Ca W N g v ps) : ps.length ≤ 64 := by have := h.ok.n64; rwa [List.length_map] at this
theorem Ca.n16 (h : Ca W N g v ps) {p : RR} (hp : p ∈ ps) : p.r.cols.length ≤ 16 := Rl.cols_le (h.ok.right _ (List.mem_map_of_mem hp))
end

end Go.Proofs.YtdgalkljngigeaaGreat

/-
Catalogs in plain words: what is found, the youngest, some of them; whatever order they come in.
-/
namespace Go.Proofs.YtdgalkljngigeaaGreat
open Go.RowKit

/-- The relation of a ref. -/
def getP (o v : Int) (ps : List RR) : Option RR := ps.find? (fun p => isR o v p.r)
def RR.zero : RR := ⟨⟨0, 0, ⟨#[]⟩, 0, []⟩, none, 0⟩
theorem getP_map (o v : Int) (ps : List RR) : (getP o v ps).map RR.r = getR o v (ps.map RR.r) := by
  unfold getP getR
  rw [List.find?_map]; rfl
theorem getP_at {o v : Int} {ps : List RR} {k : Nat} (hk : k < ps.length) (h : ps[k].r.oid = o ∧ ps[k].r.ver = v) (hp : ∀ j (hj : j < ps.length), j < k → ¬ (ps[j].r.oid = o ∧ ps[j].r.ver = v)) : getP o v ps = some ps[k] := by
  unfold getP
  rw [List.find?_eq_some_iff_getElem]
  refine ⟨by unfold isR; simpa using h, k, hk, rfl, fun j hj => ?_⟩
  have := hp j (by omega) hj
  unfold isR
  simp only [Bool.not_eq_true', decide_eq_false_iff_not]
  exact this
theorem getP_none {o v : Int} {ps : List RR} (hp : ∀ j (hj : j < ps.length), ¬ (ps[j].r.oid = o ∧ ps[j].r.ver = v)) : getP o v ps = none := by
  unfold getP
  rw [List.find?_eq_none]
  intro x hx
  obtain ⟨j, hj, rfl⟩ := List.getElem_of_mem hx
  have := hp j hj
  unfold isR
  simpa using this
theorem getP_some {o v : Int} {ps : List RR} {p : RR} (h : getP o v ps = some p) : p ∈ ps ∧ p.r.oid = o ∧ p.r.ver = v := by
  unfold getP at h
  have h1 := List.find?_some h
  unfold isR at h1
  exact ⟨List.mem_of_find?_eq_some h, by simpa using h1⟩
theorem getP_is (o v : Int) (ps : List RR) : (getP o v ps).isSome = hasR o v (ps.map RR.r) := by
  rw [← Option.isSome_map, getP_map]
  cases h : getR o v (ps.map RR.r) with
  | none => rw [getR_none.1 h]; rfl
  | some r =>
    cases hh : hasR o v (ps.map RR.r) with
    | true => rfl
    | false => rw [getR_none.2 hh] at h; cases h

/-- The first i of those that there are when one is put at its place. -/
def outs (ps : List RR) (q : RR) (i : Nat) : List RR := if i ≤ posR q.r.oid q.r.ver (ps.map RR.r) then ps.take i else (insP ps q).take (i + 1)
theorem insP_get (ps : List RR) (q : RR) {i : Nat} (hi : i < ps.length) (h : posR q.r.oid q.r.ver (ps.map RR.r) ≤ i) : (insP ps q)[i + 1]'(by rw [insP_len]; omega) = ps[i] := by
  have hk := posR_le q.r.oid q.r.ver (ps.map RR.r)
  rw [List.length_map] at hk
  have e2 : (insP ps q)[i + 1]? = some ps[i] := by
    unfold insP
    generalize posR q.r.oid q.r.ver (ps.map RR.r) = k at h hk ⊢
    rw [List.getElem?_append_right (by rw [List.length_take]; omega), show i + 1 - (ps.take k).length = (i - k) + 1 by rw [List.length_take]; omega, List.getElem?_cons_succ, List.getElem?_drop, show k + (i - k) = i by omega, List.getElem?_eq_getElem hi]
  have h3 : i + 1 < (insP ps q).length := by rw [insP_len]; omega
  rw [List.getElem?_eq_getElem h3] at e2
  exact Option.some.inj e2
theorem outs_zero (ps : List RR) (q : RR) : outs ps q 0 = [] := by unfold outs; rw [if_pos (Nat.zero_le _)]; rfl
theorem outs_lt {ps : List RR} {q : RR} {i : Nat} (hi : i < ps.length) (h : i < posR q.r.oid q.r.ver (ps.map RR.r)) : outs ps q (i + 1) = outs ps q i ++ [ps[i]] := by
  unfold outs
  rw [if_pos (by omega), if_pos (by omega), List.take_succ_eq_append_getElem hi]
theorem outs_eq {ps : List RR} {q : RR} {i : Nat} (hi : i < ps.length) (h : i = posR q.r.oid q.r.ver (ps.map RR.r)) : outs ps q (i + 1) = outs ps q i ++ [q] ++ [ps[i]] := by
  have hg := insP_get ps q hi (by omega)
  unfold outs
  rw [if_neg (by omega), if_pos (by omega), List.take_succ_eq_append_getElem (by rw [insP_len]; omega), hg]
  congr 1
  unfold insP
  rw [← h, List.take_append, List.take_of_length_le (by rw [List.length_take]; omega), List.length_take, show i + 1 - min i ps.length = 1 by omega]
  rfl
theorem outs_gt {ps : List RR} {q : RR} {i : Nat} (hi : i < ps.length) (h : posR q.r.oid q.r.ver (ps.map RR.r) < i) : outs ps q (i + 1) = outs ps q i ++ [ps[i]] := by
  have hg := insP_get ps q hi (by omega)
  unfold outs
  rw [if_neg (by omega), if_neg (by omega), List.take_succ_eq_append_getElem (by rw [insP_len]; omega), hg]
theorem outs_end {ps : List RR} {q : RR} (h : posR q.r.oid q.r.ver (ps.map RR.r) < ps.length) : outs ps q ps.length = insP ps q := by
  unfold outs
  rw [if_neg (by omega), List.take_of_length_le (by rw [insP_len]; omega)]
theorem outs_last {ps : List RR} {q : RR} (h : posR q.r.oid q.r.ver (ps.map RR.r) = ps.length) : outs ps q ps.length ++ [q] = insP ps q := by
  unfold outs insP
  rw [if_pos (by omega), h, List.drop_eq_nil_of_le (Nat.le_refl _)]

/-- The youngest of an oid among the first. -/
def lastUp (o : Int) (ps : List RR) : Nat → Option RR
  | 0 => none
  | k + 1 => if h : ∃ h : k < ps.length, ps[k].r.oid = o then some (ps[k]'h.1) else lastUp o ps k
theorem lastUp_hit {o : Int} {ps : List RR} {k : Nat} (hk : k < ps.length) (h : ps[k].r.oid = o) : lastUp o ps (k + 1) = some ps[k] := by
  unfold lastUp; rw [dif_pos ⟨hk, h⟩]
theorem lastUp_miss {o : Int} {ps : List RR} {k : Nat} (hk : k < ps.length) (h : ps[k].r.oid ≠ o) : lastUp o ps (k + 1) = lastUp o ps k := by
  conv => lhs; unfold lastUp
  rw [dif_neg (fun q => h q.2)]
theorem lastUp_some {o : Int} {ps : List RR} : ∀ {k : Nat} {p : RR}, lastUp o ps k = some p → ∃ j, ∃ h : j < ps.length, j < k ∧ p = ps[j] ∧ ps[j].r.oid = o
  | 0, p, h => by cases h
  | k + 1, p, h => by
    unfold lastUp at h
    split at h
    · rename_i hq
      exact ⟨k, hq.1, by omega, (Option.some.inj h).symm, hq.2⟩
    · obtain ⟨j, h1, h2, h3⟩ := lastUp_some h
      exact ⟨j, h1, by omega, h3⟩
theorem lastUp_map {o : Int} {a b : List RR} (h : a.map RR.r = b.map RR.r) : ∀ k, (lastUp o a k).map RR.r = (lastUp o b k).map RR.r
  | 0 => rfl
  | k + 1 => by
    have hl : a.length = b.length := by have := congrArg List.length h; simpa using this
    by_cases hk : k < a.length
    · have e : a[k].r = b[k].r := by
        have := congrArg (fun l => l[k]?) h
        simp only [List.getElem?_map, List.getElem?_eq_getElem hk, List.getElem?_eq_getElem (show k < b.length by omega), Option.map_some] at this
        exact Option.some.inj this
      by_cases hq : a[k].r.oid = o
      · rw [lastUp_hit hk hq, lastUp_hit (by omega) (by rw [← e]; exact hq), Option.map_some, Option.map_some, e]
      · rw [lastUp_miss hk hq, lastUp_miss (by omega) (by rw [← e]; exact hq)]
        exact lastUp_map h k
    · unfold lastUp
      rw [dif_neg (fun q => hk q.1), dif_neg (fun q => hk (by have := q.1; omega))]
      exact lastUp_map h k

/-- A ref. -/
structure Rf where
  o : Int
  v : Int
def Rf.cells (r : Rf) : List Value := [.int .u32 r.o, .int .u32 r.v]
theorem Rf.at_ {w wr : World} {b o : Nat} {l : List Rf} {k : Nat} (hk : k < l.length) (hc : ∀ j, j < 2 → w.cell? ⟨b, o + k * 2 + j, none⟩ = ((l.map Rf.cells).getD k [])[j]?) (hb : b < w.heap.size) (hE : Ext w wr) :
    wr.cell? ⟨b, o + k * 2, none⟩ = some (.int .u32 l[k].o) ∧ wr.cell? ⟨b, o + k * 2 + 1, none⟩ = some (.int .u32 l[k].v) := by
  rw [getD_map Rf.cells l hk] at hc
  have c := hE.cells.1 b
  exact ⟨(c _ hb).trans (hc 0 (by omega)), (c _ hb).trans (hc 1 (by omega))⟩
/-- Is it of one of some refs? -/
def ofRefs (rs : List Rf) (r : Rl) : Bool := rs.any (fun x => isR x.o x.v r)
def onlyE (rs : List Rf) (l : List Rl) : Int := if rs.all (fun x => hasR x.o x.v l) = true then 0 else 10
theorem onlyE_no {rs : List Rf} {l : List Rl} {k : Nat} (hk : k < rs.length) (h : hasR rs[k].o rs[k].v l = false) : onlyE rs l = 10 := by
  unfold onlyE
  rw [if_neg]
  intro hq
  have := List.all_eq_true.1 hq _ (List.getElem_mem hk)
  rw [h] at this; cases this
theorem onlyE_yes {rs : List Rf} {l : List Rl} (h : ∀ k (hk : k < rs.length), hasR rs[k].o rs[k].v l = true) : onlyE rs l = 0 := by
  unfold onlyE
  rw [if_pos]
  rw [List.all_eq_true]
  intro x hx
  obtain ⟨k, hk, rfl⟩ := List.getElem_of_mem hx
  exact h k hk
theorem ofRefs_snoc {rs : List Rf} {k : Nat} (hk : k < rs.length) (x : Rl) : ofRefs (rs.take (k + 1)) x = (ofRefs (rs.take k) x || isR rs[k].o rs[k].v x) := by
  unfold ofRefs
  rw [List.take_succ_eq_append_getElem hk, List.any_append]; simp
/-- What is there when those of the first k refs were added. -/
theorem only_step {l : List Rl} (hl : CatOk l) {rs : List Rf} {k : Nat} (hk : k < rs.length) {r : Rl} (hg : getR rs[k].o rs[k].v l = some r) :
    addL (l.filter (ofRefs (rs.take k))) r = l.filter (ofRefs (rs.take (k + 1))) := by
  obtain ⟨hm, ho, hv⟩ := getR_some hg
  have hs : ∀ f : Rl → Bool, Srt (l.filter f) := fun f => List.Pairwise.sublist List.filter_sublist hl.srt
  have hi : isR rs[k].o rs[k].v r = true := by unfold isR; simp [ho, hv]
  have hiu : ∀ x ∈ l, isR rs[k].o rs[k].v x = true → x = r := fun x hx hq => by
    unfold isR at hq
    have : x.oid = rs[k].o ∧ x.ver = rs[k].v := by simpa using hq
    exact hl.srt.uniq hx hm (by rw [this.1, ho]) (by rw [this.2, hv])
  cases hh : hasR r.oid r.ver (l.filter (ofRefs (rs.take k))) with
  | true =>
    have hmem : r ∈ l.filter (ofRefs (rs.take k)) := by
      unfold hasR at hh
      rw [List.any_eq_true] at hh
      obtain ⟨x, hx, hq⟩ := hh
      unfold isR at hq
      have hq2 : x.oid = r.oid ∧ x.ver = r.ver := by simpa using hq
      rw [← hl.srt.uniq ((List.mem_filter.1 hx).1) hm hq2.1 hq2.2]
      exact hx
    have hE : addE (l.filter (ofRefs (rs.take k))) r ≠ 0 := by unfold addE; rw [if_neg (by simpa using hl.right r hm), if_pos hh]; decide
    unfold addL
    rw [if_neg hE]
    refine (hs _).ext (hs _) fun x => ?_
    rw [List.mem_filter, List.mem_filter, ofRefs_snoc hk, Bool.or_eq_true]
    constructor
    · rintro ⟨h1, h2⟩; exact ⟨h1, .inl h2⟩
    · rintro ⟨h1, h2 | h2⟩
      · exact ⟨h1, h2⟩
      · rw [hiu x h1 h2]; exact List.mem_filter.1 hmem
  | false =>
    have hnf : ofRefs (rs.take k) r = false := by
      cases hq : ofRefs (rs.take k) r with
      | false => rfl
      | true =>
        have : hasR r.oid r.ver (l.filter (ofRefs (rs.take k))) = true := by
          unfold hasR
          rw [List.any_eq_true]
          exact ⟨r, List.mem_filter.2 ⟨hm, hq⟩, by unfold isR; simp⟩
        rw [hh] at this; cases this
    have hlt : (l.filter (ofRefs (rs.take k))).length < l.length := List.length_filter_lt_length_iff_exists.2 ⟨r, hm, by rw [hnf]; simp⟩
    have h64 := hl.n64
    have hE : addE (l.filter (ofRefs (rs.take k))) r = 0 := by unfold addE; rw [if_neg (by simpa using hl.right r hm), if_neg (by rw [hh]; simp), if_neg (by omega)]
    unfold addL
    rw [if_pos hE]
    refine ((hs _).ins hh).ext (hs _) fun x => ?_
    rw [insR_mem, List.mem_filter, List.mem_filter, ofRefs_snoc hk, Bool.or_eq_true]
    constructor
    · rintro (rfl | ⟨h1, h2⟩)
      · exact ⟨hm, .inr hi⟩
      · exact ⟨h1, .inl h2⟩
    · rintro ⟨h1, h2 | h2⟩
      · exact .inr ⟨h1, h2⟩
      · exact .inl (hiu x h1 h2)

/-- Relations that all may be added. -/
structure Fine (l : List Rl) : Prop where
  right : ∀ r ∈ l, r.right = 0
  one : l.Pairwise (fun a b => ¬ (a.oid = b.oid ∧ a.ver = b.ver))
  n : l.length ≤ 64
theorem ofUp_mem {l : List Rl} (h : ∀ j, j < l.length → ofAt l j = 0) : ∀ k, k ≤ l.length → (∀ x, x ∈ ofUp l k ↔ x ∈ l.take k) ∧ (ofUp l k).length = k
  | 0, _ => ⟨fun x => by simp [ofUp], rfl⟩
  | k + 1, hk => by
    obtain ⟨h1, h2⟩ := ofUp_mem h k (by omega)
    have h0 := h k (by omega)
    unfold ofAt at h0
    rw [dif_pos (by omega)] at h0
    rw [ofUp_succ (by omega)]
    unfold addL
    rw [if_pos h0, insR_len, h2]
    refine ⟨fun x => ?_, rfl⟩
    rw [insR_mem, h1, List.take_succ_eq_append_getElem (by omega), List.mem_append, List.mem_singleton, or_comm]
theorem ofAt_fine {l : List Rl} (h : ∀ j, j < l.length → ofAt l j = 0) : Fine l := by
  have hz : ∀ j (hj : j < l.length), addE (ofUp l j) l[j] = 0 := fun j hj => by have := h j hj; unfold ofAt at this; rwa [dif_pos hj] at this
  refine ⟨fun r hr => ?_, ?_, ?_⟩
  · obtain ⟨j, hj, rfl⟩ := List.getElem_of_mem hr
    exact (addE_zero (hz j hj)).1
  · rw [List.pairwise_iff_getElem]
    intro i j hi hj hij hq
    have h1 := (addE_zero (hz j hj)).2.1
    have h2 := ((ofUp_mem h j (by omega)).1 l[i]).2 (List.mem_take_iff_getElem.2 ⟨i, by omega, rfl⟩)
    obtain ⟨m, hm, e⟩ := List.getElem_of_mem h2
    rw [hasR_at hm (by rw [e]; exact hq)] at h1
    cases h1
  · have := (ofUp_mem h l.length (Nat.le_refl _)).2
    have h2 := (ofUp_ok l l.length).n64
    omega
theorem Fine.at_ {l : List Rl} (h : Fine l) : ∀ k, k ≤ l.length → ∀ j, j < k → ofAt l j = 0
  | 0, _, j, hj => absurd hj (Nat.not_lt_zero _)
  | k + 1, hk, j, hj => by
    have ih := h.at_ k (by omega)
    by_cases e : j < k
    · exact ih j e
    · obtain rfl : j = k := by omega
      have hm : ∀ m, m ≤ j → (∀ x, x ∈ ofUp l m ↔ x ∈ l.take m) ∧ (ofUp l m).length = m := by
        intro m
        induction m with
        | zero => intro _; exact ⟨fun x => by simp [ofUp], rfl⟩
        | succ m ihm =>
          intro hmj
          obtain ⟨h1, h2⟩ := ihm (by omega)
          have h0 := ih m (by omega)
          unfold ofAt at h0
          rw [dif_pos (by omega)] at h0
          rw [ofUp_succ (by omega)]
          unfold addL
          rw [if_pos h0, insR_len, h2]
          refine ⟨fun x => ?_, rfl⟩
          rw [insR_mem, h1, List.take_succ_eq_append_getElem (by omega), List.mem_append, List.mem_singleton, or_comm]
      obtain ⟨h1, h2⟩ := hm j (Nat.le_refl _)
      unfold ofAt
      rw [dif_pos (by omega)]
      unfold addE
      rw [if_neg (by simpa using h.right _ (List.getElem_mem (by omega)))]
      have hh : hasR (l[j]'(by omega)).oid (l[j]'(by omega)).ver (ofUp l j) = false := by
        refine hasR_no fun i hi hq => ?_
        have h3 := (h1 (ofUp l j)[i]).1 (List.getElem_mem hi)
        obtain ⟨m, hm1, hm2⟩ := List.mem_take_iff_getElem.1 h3
        have := List.pairwise_iff_getElem.1 h.one m j (by omega) (by omega) (by omega)
        rw [← hm2] at hq
        exact this hq
      rw [if_neg (by rw [hh]; simp), if_neg (by have := h.n; omega)]
theorem Fine.rev {l : List Rl} (h : Fine l) : Fine l.reverse :=
  ⟨fun r hr => h.right r (List.mem_reverse.1 hr), by rw [List.pairwise_reverse]; exact h.one.imp (fun hq h2 => hq ⟨h2.1.symm, h2.2.symm⟩), by rw [List.length_reverse]; exact h.n⟩
theorem Fine.same {a b : List Rl} (ha : Fine a) (hb : Fine b) (h : ∀ x, x ∈ a ↔ x ∈ b) : ofUp a a.length = ofUp b b.length := by
  refine (ofUp_ok a _).srt.ext (ofUp_ok b _).srt fun x => ?_
  rw [((ofUp_mem (ha.at_ _ (Nat.le_refl _)) _ (Nat.le_refl _)).1 x), ((ofUp_mem (hb.at_ _ (Nat.le_refl _)) _ (Nat.le_refl _)).1 x), List.take_length, List.take_length]
  exact h x

/-- What one more leaves of what there was. -/
theorem add_get {l : List Rl} (hl : CatOk l) (r : Rl) {x : Rl} (hx : x ∈ l) : getR x.oid x.ver (addL l r) = some x := by
  have hok := hl.add r
  have hm : x ∈ addL l r := by
    unfold addL
    split
    · exact insR_mem.2 (.inr hx)
    · exact hx
  obtain ⟨i, hi, e⟩ := List.getElem_of_mem hm
  rw [hok.srt.get_at hi (by rw [e]; exact ⟨rfl, rfl⟩), e]
theorem add_new {l : List Rl} (hl : CatOk l) {r : Rl} (h : addE l r = 0) : getR r.oid r.ver (addL l r) = some r ∧ (addL l r).length = l.length + 1 ∧ addE (addL l r) r = 9 := by
  have hok := hl.add r
  have hm : r ∈ addL l r := by unfold addL; rw [if_pos h]; exact insR_mem.2 (.inl rfl)
  obtain ⟨i, hi, e⟩ := List.getElem_of_mem hm
  refine ⟨by rw [hok.srt.get_at hi (by rw [e]; exact ⟨rfl, rfl⟩), e], by unfold addL; rw [if_pos h, insR_len], ?_⟩
  unfold addE
  rw [if_neg (by simpa using (addE_zero h).1), if_pos (hasR_at hi (by rw [e]; exact ⟨rfl, rfl⟩))]
theorem addL_len {l : List Rl} {r : Rl} (h : addE l r ≠ 0) : addL l r = l := by unfold addL; rw [if_neg h]

end Go.Proofs.YtdgalkljngigeaaGreat

/-
Whether two rows are alike: the program's answer, the reference's.
-/
namespace Go.Proofs.YtdgalkljngigeaaGreat
open Go.RowKit

theorem alikeK {c d : K} : alikeB c.k c.v.ty c.v.n c.v.x c.v.y c.v.s d.k d.v.ty d.v.n d.v.x d.v.y d.v.s = true ↔ c = d := by
  unfold alikeB
  rw [decide_eq_true_iff]
  constructor
  · obtain ⟨k, ty, n, x, y, s⟩ := c
    obtain ⟨k', ty', n', x', y', s'⟩ := d
    rintro ⟨rfl, rfl, rfl, rfl, rfl, rfl⟩
    rfl
  · rintro rfl; simp
/-- Are two rows alike? -/
noncomputable def rowB (l m : List K) : Bool := @decide (l = m) (Classical.propDecidable _)
theorem rowB_true {l m : List K} : rowB l m = true ↔ l = m := by unfold rowB; simp
theorem rowB_false {l m : List K} : rowB l m = false ↔ l ≠ m := by unfold rowB; simp
theorem rowB_at {l m : List K} {k : Nat} (h1 : k < l.length) (h2 : k < m.length) (h : l[k] ≠ m[k]) : rowB l m = false := rowB_false.2 (by rintro rfl; exact h rfl)
theorem rowB_len {l m : List K} (h : l.length ≠ m.length) : rowB l m = false := rowB_false.2 (by rintro rfl; exact h rfl)
theorem rowB_all {l m : List K} (h0 : l.length = m.length) (h : ∀ i (h1 : i < l.length) (h2 : i < m.length), l[i] = m[i]) : rowB l m = true := rowB_true.2 (List.ext_getElem h0 h)

set_option maxRecDepth 100000 in set_option maxHeartbeats 1600000 in
theorem neq_cell (k ty n : Int) (x y : Nat) (s : ByteArray) (k' ty' n' : Int) (x' y' : Nat) (s' : ByteArray) (w : World) :
    (binOp .neq 119 (.agg #[.int .u8 k, .int .u8 ty, .int .i64 n, .int .u64 x, .int .u64 y, .string s]) (.agg #[.int .u8 k', .int .u8 ty', .int .i64 n', .int .u64 x', .int .u64 y', .string s'])).run Tryz.prog w = .ok (.bool (!alikeB k ty n x y s k' ty' n' x' y' s')) w := by
  by_cases h0 : k = k' <;> by_cases h1 : ty = ty' <;> by_cases h2 : n = n' <;> by_cases h3 : x = x' <;> by_cases h4 : y = y' <;> by_cases h5 : s = s' <;> simp [go_sem, alikeB, h0, h1, h2, h3, h4, h5]
  all_goals first
    | (intro h; exact absurd (toList_inj' h) h5)
    | omega
    | (intros; omega)
    | (intros; intro h; exact absurd (toList_inj' h) h5)

set_option maxRecDepth 100000 in set_option maxHeartbeats 2000000 in
theorem eqf_any (l m : List K) (a b : Option Addr) (ca cb : Nat) (w : World) (hl : Sl w (.slice a l.length ca) 5 (l.map K.pc)) (hm : Sl w (.slice b m.length cb) 5 (m.map K.pc)) (hlen : l.length ≤ 1000) (_hlen2 : m.length ≤ 1000) :
    Calls Tryz.prog 56 #[.slice a l.length ca, .slice b m.length cb, .func (.func 57) #[] #[]] w fun e w' => e = .returned (.bool (rowB l m)) ∧ Ext w w' := by
  have HL := Hid.mk' hl
  have HM := Hid.mk' hm
  clear hl hm
  by_cases hn : l.length = m.length
  case neg =>
    have hn' : (((l.length : Nat) : Int) != ((m.length : Nat) : Int)) = true := by simp; omega
    have HR := Hid.mk' (rowB_len hn)
    clear hn
    go_enter Tryz.func56, Tryz.ntmps56
    go_wp2
    go_ret
    exact ⟨ret_bool HR.out.symm, by exact eX⟩
  have hn' : (((l.length : Nat) : Int) != ((m.length : Nat) : Int)) = false := by simp; omega
  have HN := Hid.mk' hn
  clear hn
  go_enter Tryz.func56, Tryz.ntmps56
  go_wp2
  go_loopw [17] (fun i wr => ∃ k : Nat, k ≤ l.length ∧ i = .int .i64 k ∧ Hid (∀ j (h1 : j < l.length) (h2 : j < m.length), j < k → l[j] = m[j]) ∧ Hid (Ext w wr)) (fun i _ => l.length - (intOf i).toNat)
  case atStart => exact ⟨0, Nat.zero_le _, rfl, fun j _ _ h => by omega, Ext.refl _⟩
  case round =>
    obtain ⟨k, hk, rfl, hrel, hE⟩ := hrel
    by_cases hlt : k < l.length
    · have hlt2 : k < m.length := by have := HN.out; omega
      obtain ⟨b1, o1, rfl, hb1, hx1⟩ := HL.out.at_ (i := k) (by simpa using hlt)
      obtain ⟨f0, f1, f2, f3, f4⟩ := K.pcAt hlt hx1 hb1 hE.out
      obtain ⟨b2, o2, rfl, hb2, hx2⟩ := HM.out.at_ (i := k) (by simpa using hlt2)
      obtain ⟨p0, p1, p2, p3, p4⟩ := K.pcAt hlt2 hx2 hb2 hE.out
      have hbw : b1 < wr.heap.size := Nat.lt_of_lt_of_le hb1 hE.out.size
      have hbw2 : b2 < wr.heap.size := Nat.lt_of_lt_of_le hb2 hE.out.size
      have hbx2 : b2 < wr.heap.size + 1 := by omega
      have HC := Hid.mk' (fun w => calike_any l[k].k l[k].v.ty l[k].v.n l[k].v.x l[k].v.y l[k].v.s m[k].k m[k].v.ty m[k].v.n m[k].v.x m[k].v.y m[k].v.s w)
      cases hA : alikeB l[k].k l[k].v.ty l[k].v.n l[k].v.x l[k].v.y l[k].v.s m[k].k m[k].v.ty m[k].v.n m[k].v.x m[k].v.y m[k].v.s with
      | true =>
        rw [hA] at HC
        have HA := Hid.mk' (alikeK.1 hA)
        clear hA hx1 hx2
        go_wp2_with (go_at_call 57; refine (HC.out _).mono ?_; rintro e w1 ⟨rfl, hb3⟩)
        go_roundw
        case rel => exact ⟨k + 1, by omega, by go_num, fun j h1 h2 hjk => by
          by_cases e : j = k
          · subst e; exact HA.out
          · exact hrel.out j h1 h2 (by omega), Hid.mk' (hE.out.trans (by exact eX))⟩
        case measure => simp [intOf]; omega
      | false =>
        rw [hA] at HC
        have HR := Hid.mk' (rowB_at hlt hlt2 (fun h => by rw [alikeK.2 h] at hA; cases hA))
        clear hA hx1 hx2
        go_wp2_with (go_at_call 57; refine (HC.out _).mono ?_; rintro e w1 ⟨rfl, hb3⟩)
        go_ret
        exact ⟨ret_bool HR.out.symm, hE.out.trans (by exact eX)⟩
    · have hkk : k = l.length := by omega
      have HR := Hid.mk' (rowB_all HN.out (fun i h1 h2 => hrel.out i h1 h2 (by omega)))
      subst hkk
      go_wp2
      go_ret
      exact ⟨ret_bool HR.out.symm, hE.out⟩

set_option maxRecDepth 20000 in set_option maxHeartbeats 400000 in
theorem alike_any (l m : List K) (a b : Option Addr) (ca cb : Nat) (w : World) (hl : Sl w (.slice a l.length ca) 5 (l.map K.pc)) (hm : Sl w (.slice b m.length cb) 5 (m.map K.pc)) (hlen : l.length ≤ 1000) (hlen2 : m.length ≤ 1000) :
    Calls Tryz.prog 30 #[.slice a l.length ca, .slice b m.length cb] w fun e w' => e = .returned (.bool (rowB l m)) ∧ Ext w w' := by
  have HI := Hid.mk' (eqf_any l m a b ca cb w hl hm hlen hlen2)
  clear hl hm
  go_enter Tryz.func30, Tryz.ntmps30
  go_wp2_with (go_at_call 56; refine HI.out.mono ?_; rintro e w1 ⟨rfl, hb1⟩)
  go_ret
  exact ⟨rfl, hb1⟩

set_option maxRecDepth 100000 in set_option maxHeartbeats 2000000 in
theorem rsame_any (l m : List K) (a b : Option Addr) (ca cb : Nat) (w : World) (hl : Sl w (.slice a l.length ca) 6 (l.map K.rc)) (hm : Sl w (.slice b m.length cb) 6 (m.map K.rc)) (hlen : l.length ≤ 1000) (_hlen2 : m.length ≤ 1000) :
    Calls Tryz.prog 26 #[.slice a l.length ca, .slice b m.length cb] w fun e w' => e = .returned (.bool (rowB l m)) ∧ Ext w w' := by
  have HL := Hid.mk' hl
  have HM := Hid.mk' hm
  clear hl hm
  by_cases hn : l.length = m.length
  case neg =>
    have hn' : (((l.length : Nat) : Int) != ((m.length : Nat) : Int)) = true := by simp; omega
    have HR := Hid.mk' (rowB_len hn)
    clear hn
    go_enter Tryz.func26, Tryz.ntmps26
    go_wp2
    go_ret
    exact ⟨ret_bool HR.out.symm, by exact eX⟩
  have hn' : (((l.length : Nat) : Int) != ((m.length : Nat) : Int)) = false := by simp; omega
  have HN := Hid.mk' hn
  clear hn
  go_enter Tryz.func26, Tryz.ntmps26
  go_wp2
  go_loopw [5] (fun i wr => ∃ k : Nat, k ≤ l.length ∧ i = .int .i64 k ∧ Hid (∀ j (h1 : j < l.length) (h2 : j < m.length), j < k → l[j] = m[j]) ∧ Hid (Ext w wr)) (fun i _ => l.length - (intOf i).toNat)
  case atStart => exact ⟨0, Nat.zero_le _, rfl, fun j _ _ h => by omega, Ext.refl _⟩
  case round =>
    obtain ⟨k, hk, rfl, hrel, hE⟩ := hrel
    by_cases hlt : k < l.length
    · have hlt2 : k < m.length := by have := HN.out; omega
      obtain ⟨b1, o1, rfl, hb1, hx1⟩ := HL.out.at_ (i := k) (by simpa using hlt)
      obtain ⟨f0, f1, f2, f3, f4, f5⟩ := K.rcAt hlt hx1 hb1 hE.out
      obtain ⟨b2, o2, rfl, hb2, hx2⟩ := HM.out.at_ (i := k) (by simpa using hlt2)
      obtain ⟨p0, p1, p2, p3, p4, p5⟩ := K.rcAt hlt2 hx2 hb2 hE.out
      have hbw : b1 < wr.heap.size := Nat.lt_of_lt_of_le hb1 hE.out.size
      have hbw2 : b2 < wr.heap.size := Nat.lt_of_lt_of_le hb2 hE.out.size
      have hNq := fun w => neq_cell l[k].k l[k].v.ty l[k].v.n l[k].v.x l[k].v.y l[k].v.s m[k].k m[k].v.ty m[k].v.n m[k].v.x m[k].v.y m[k].v.s w
      cases hA : alikeB l[k].k l[k].v.ty l[k].v.n l[k].v.x l[k].v.y l[k].v.s m[k].k m[k].v.ty m[k].v.n m[k].v.x m[k].v.y m[k].v.s with
      | true =>
        rw [hA] at hNq
        have HA := Hid.mk' (alikeK.1 hA)
        clear hA hx1 hx2
        go_wp2
        go_region_held3 (fun w' => Ext (wr) w' ∧ (∀ b o, b < (wr).heap.size → w'.cell? ⟨b, o, none⟩ = (wr).cell? ⟨b, o, none⟩) ∧ (∀ b o, b < (wr).heap.size → w'.frozen? ⟨b, o, none⟩ = (wr).frozen? ⟨b, o, none⟩)) ((exact held_of (by exact eX))) (fail)
        go_wp2
        go_roundw
        case rel => exact ⟨k + 1, by omega, by go_num, fun j h1 h2 hjk => by
          by_cases e : j = k
          · subst e; exact HA.out
          · exact hrel.out j h1 h2 (by omega), Hid.mk' (hE.out.trans (by exact eX))⟩
        case measure => simp [intOf]; omega
      | false =>
        rw [hA] at hNq
        have HR := Hid.mk' (rowB_at hlt hlt2 (fun h => by rw [alikeK.2 h] at hA; cases hA))
        clear hA hx1 hx2
        go_wp2
        go_region_held3 (fun w' => Ext (wr) w' ∧ (∀ b o, b < (wr).heap.size → w'.cell? ⟨b, o, none⟩ = (wr).cell? ⟨b, o, none⟩) ∧ (∀ b o, b < (wr).heap.size → w'.frozen? ⟨b, o, none⟩ = (wr).frozen? ⟨b, o, none⟩)) ((exact held_of (by exact eX))) (fail)
        go_wp2
        go_ret
        exact ⟨ret_bool HR.out.symm, hE.out.trans (by exact eX)⟩
    · have hkk : k = l.length := by omega
      have HR := Hid.mk' (rowB_all HN.out (fun i h1 h2 => hrel.out i h1 h2 (by omega)))
      subst hkk
      go_wp2
      go_ret
      exact ⟨ret_bool HR.out.symm, hE.out⟩

end Go.Proofs.YtdgalkljngigeaaGreat

/-
Events, in plain words and in memory; blocks of eight cells.
-/
namespace Go.Proofs.YtdgalkljngigeaaGreat
open Go.RowKit

/-- An event. -/
structure Ev where
  kind : Int
  ao : Int
  av : Int
  old : Int
  b : List K
  a : List K
  rs : List Rf
  fl : Int
theorem Blk.eight {W : World} {b : Nat} {u0 u1 u2 u3 u4 u5 u6 u7 v0 v1 v2 v3 v4 v5 v6 v7 : Value} {T : TypeId} (h : Blk W b #[u0, u1, u2, u3, u4, u5, u6, u7] T) :
    Blk ((((((((W.setCell ⟨b, 0, none⟩ v0).setCell ⟨b, 1, none⟩ v1).setCell ⟨b, 2, none⟩ v2).setCell ⟨b, 3, none⟩ v3).setCell ⟨b, 4, none⟩ v4).setCell ⟨b, 5, none⟩ v5).setCell ⟨b, 6, none⟩ v6).setCell ⟨b, 7, none⟩ v7) b #[v0, v1, v2, v3, v4, v5, v6, v7] T := by
  have h1 := (((((((h.set 0 v0).set 1 v1).set 2 v2).set 3 v3).set 4 v4).set 5 v5).set 6 v6).set 7 v7
  simpa only [List.setIfInBounds_toArray, List.set_cons_zero, List.set_cons_succ] using h1
theorem Fr.eight {W : World} {N M k X : Nat} {v : Value} {xss : List (List Value)} {v0 v1 v2 v3 v4 v5 v6 v7 : Value} (h : Fr W N M v k xss) (hp : X < N ∨ M ≤ X) :
    Fr ((((((((W.setCell ⟨X, 0, none⟩ v0).setCell ⟨X, 1, none⟩ v1).setCell ⟨X, 2, none⟩ v2).setCell ⟨X, 3, none⟩ v3).setCell ⟨X, 4, none⟩ v4).setCell ⟨X, 5, none⟩ v5).setCell ⟨X, 6, none⟩ v6).setCell ⟨X, 7, none⟩ v7) N M v k xss := by
  repeat refine Fr.set ?_ hp _
  exact h
theorem Fr.ne {W : World} {N M k X : Nat} {a : Option Addr} {n c : Nat} {xss : List (List Value)} (h : Fr W N M (.slice a n c) k xss) (hp : X < N ∨ M ≤ X) (h0 : xss ≠ []) : ∀ b o, a = some ⟨b, o, none⟩ → b ≠ X := fun b o e => by
  have h1 := h.2 b o n c (by rw [e])
  have h2 := h1.2 h0
  omega
theorem Fr.ne2 {W : World} {N M k X m : Nat} {a : Option Addr} {n c : Nat} {xss : List (List Value)} (h : Fr W N M (.slice a n c) k xss) (hp : X < N ∨ M ≤ X) (hm : m < N) (h0 : xss ≠ []) : ∀ b o, a = some ⟨b, o, none⟩ → b ≠ X ∧ m < b := fun b o e => by
  have h1 := h.2 b o n c (by rw [e])
  have h2 := h1.2 h0
  omega
theorem Kp.eight {W : World} {X : Nat} {v0 v1 v2 v3 v4 v5 v6 v7 : Value} :
    Kp (fun x => x = X) W ((((((((W.setCell ⟨X, 0, none⟩ v0).setCell ⟨X, 1, none⟩ v1).setCell ⟨X, 2, none⟩ v2).setCell ⟨X, 3, none⟩ v3).setCell ⟨X, 4, none⟩ v4).setCell ⟨X, 5, none⟩ v5).setCell ⟨X, 6, none⟩ v6).setCell ⟨X, 7, none⟩ v7) := by
  have hs : ∀ (W : World) i v, Kp (fun x => x = X) W (W.setCell ⟨X, i, none⟩ v) := fun W i v => Kp.set (S := fun x => x = X) ⟨X, i, none⟩ v rfl
  have ht : ∀ {A B C : World}, Kp (fun x => x = X) A B → Kp (fun x => x = X) B C → Kp (fun x => x = X) A C := fun h k => h.trans k (fun x hx _ => hx)
  exact ht (ht (ht (ht (ht (ht (ht (hs _ _ _) (hs _ _ _)) (hs _ _ _)) (hs _ _ _)) (hs _ _ _)) (hs _ _ _)) (hs _ _ _)) (hs _ _ _)
theorem Kp.ge {N : Nat} {w w' : World} (h : Ext w w') : Kp (fun k => N ≤ k) w w' := Kp.of_ext h

end Go.Proofs.YtdgalkljngigeaaGreat

/-
Names: the program's, the reference's.
-/
namespace Go.Proofs.YtdgalkljngigeaaGreat
open Go.RowKit

set_option maxRecDepth 20000 in set_option maxHeartbeats 400000 in
theorem named_any (s : ByteArray) (w : World) (hs : s.size ≤ 9223372036854775807) :
    Calls Tryz.prog 84 #[.string s] w fun e w' => e = .returned (.bool (namedB s)) ∧ w = w' := by
  go_enter Tryz.func84, Tryz.ntmps84
  go_wp2
  go_loop [8] (fun i => ∃ k : Nat, k ≤ s.size ∧ i = .int .i64 k ∧ Hid (∀ j, j < k → nameAt s j = true)) (fun i => s.size - (intOf i).toNat)
  case atStart => exact ⟨0, Nat.zero_le _, rfl, fun j h => by omega⟩
  case round =>
    obtain ⟨k, hk, rfl, hrel⟩ := hrel
    by_cases hlt : k < s.size
    · rcases name_cases hlt with ⟨hn, hc⟩ | ⟨hn, hc⟩
      · have HN := Hid.mk' hn
        clear hn
        have HC := Hid.mk' hc
        clear hc
        rcases HC.out with ⟨h1, h2⟩ | ⟨h0, h1, h2⟩ | ⟨h0, h1⟩
        · clear HC
          go_wp2
          go_round
          case rel => exact ⟨k + 1, by omega, by go_num, fun j hj => by
            by_cases e : j = k
            · subst e; exact HN.out
            · exact hrel.out j (by omega)⟩
          case measure => simp [intOf]; omega
        · clear HC
          (try first | (have a1 : 97 ≤ (s[k].toNat : Int) := by omega) | (have a1 : (s[k].toNat : Int) < 97 := by omega)); (try first | (have a2 : (s[k].toNat : Int) ≤ 122 := by omega) | (have a2 : 122 < (s[k].toNat : Int) := by omega)); (try first | (have a3 : 48 ≤ (s[k].toNat : Int) := by omega) | (have a3 : (s[k].toNat : Int) < 48 := by omega)); (try first | (have a4 : (s[k].toNat : Int) ≤ 57 := by omega) | (have a4 : 57 < (s[k].toNat : Int) := by omega)); (try first | (have a1d : decide (97 ≤ (s[k].toNat : Int)) = true := decide_eq_true (by omega)) | (have a1d : decide (97 ≤ (s[k].toNat : Int)) = false := decide_eq_false (by omega))); (try first | (have a2d : decide ((s[k].toNat : Int) ≤ 122) = true := decide_eq_true (by omega)) | (have a2d : decide ((s[k].toNat : Int) ≤ 122) = false := decide_eq_false (by omega))); (try first | (have a3d : decide (48 ≤ (s[k].toNat : Int)) = true := decide_eq_true (by omega)) | (have a3d : decide (48 ≤ (s[k].toNat : Int)) = false := decide_eq_false (by omega))); (try first | (have a4d : decide ((s[k].toNat : Int) ≤ 57) = true := decide_eq_true (by omega)) | (have a4d : decide ((s[k].toNat : Int) ≤ 57) = false := decide_eq_false (by omega)))
          have e0 : ((k : Int) == 0) = false := by simp; omega
          have h3 : (s[k].toNat : Int) < 97 := by omega
          go_wp2
          go_round
          case rel => exact ⟨k + 1, by omega, by go_num, fun j hj => by
            by_cases e : j = k
            · subst e; exact HN.out
            · exact hrel.out j (by omega)⟩
          case measure => simp [intOf]; omega
        · clear HC
          have e0 : ((k : Int) == 0) = false := by simp; omega
          have e1 : ((s[k].toNat : Int) != 95) = false := by simp; omega
          have h3 : (s[k].toNat : Int) < 97 := by omega
          have h4 : 57 < (s[k].toNat : Int) := by omega
          clear h1
          go_wp2
          go_round
          case rel => exact ⟨k + 1, by omega, by go_num, fun j hj => by
            by_cases e : j = k
            · subst e; exact HN.out
            · exact hrel.out j (by omega)⟩
          case measure => simp [intOf]; omega
      · have HF := Hid.mk' (named_no hlt hn)
        clear hn
        rcases hc with ⟨rfl, h1⟩ | ⟨rfl, h1⟩ | ⟨h0, h1⟩ | ⟨h0, h1, h2⟩ | ⟨h0, h1, h2⟩ | ⟨h0, h1⟩
        · (try first | (have a1 : 97 ≤ (s[0].toNat : Int) := by omega) | (have a1 : (s[0].toNat : Int) < 97 := by omega)); (try first | (have a2 : (s[0].toNat : Int) ≤ 122 := by omega) | (have a2 : 122 < (s[0].toNat : Int) := by omega)); (try first | (have a3 : 48 ≤ (s[0].toNat : Int) := by omega) | (have a3 : (s[0].toNat : Int) < 48 := by omega)); (try first | (have a4 : (s[0].toNat : Int) ≤ 57 := by omega) | (have a4 : 57 < (s[0].toNat : Int) := by omega)); (try first | (have a1d : decide (97 ≤ (s[0].toNat : Int)) = true := decide_eq_true (by omega)) | (have a1d : decide (97 ≤ (s[0].toNat : Int)) = false := decide_eq_false (by omega))); (try first | (have a2d : decide ((s[0].toNat : Int) ≤ 122) = true := decide_eq_true (by omega)) | (have a2d : decide ((s[0].toNat : Int) ≤ 122) = false := decide_eq_false (by omega))); (try first | (have a3d : decide (48 ≤ (s[0].toNat : Int)) = true := decide_eq_true (by omega)) | (have a3d : decide (48 ≤ (s[0].toNat : Int)) = false := decide_eq_false (by omega))); (try first | (have a4d : decide ((s[0].toNat : Int) ≤ 57) = true := decide_eq_true (by omega)) | (have a4d : decide ((s[0].toNat : Int) ≤ 57) = false := decide_eq_false (by omega)))
          go_wp2
          all_goals
            go_ret
            exact ⟨ret_bool HF.out.symm, rfl⟩
        · (try first | (have a1 : 97 ≤ (s[0].toNat : Int) := by omega) | (have a1 : (s[0].toNat : Int) < 97 := by omega)); (try first | (have a2 : (s[0].toNat : Int) ≤ 122 := by omega) | (have a2 : 122 < (s[0].toNat : Int) := by omega)); (try first | (have a3 : 48 ≤ (s[0].toNat : Int) := by omega) | (have a3 : (s[0].toNat : Int) < 48 := by omega)); (try first | (have a4 : (s[0].toNat : Int) ≤ 57 := by omega) | (have a4 : 57 < (s[0].toNat : Int) := by omega)); (try first | (have a1d : decide (97 ≤ (s[0].toNat : Int)) = true := decide_eq_true (by omega)) | (have a1d : decide (97 ≤ (s[0].toNat : Int)) = false := decide_eq_false (by omega))); (try first | (have a2d : decide ((s[0].toNat : Int) ≤ 122) = true := decide_eq_true (by omega)) | (have a2d : decide ((s[0].toNat : Int) ≤ 122) = false := decide_eq_false (by omega))); (try first | (have a3d : decide (48 ≤ (s[0].toNat : Int)) = true := decide_eq_true (by omega)) | (have a3d : decide (48 ≤ (s[0].toNat : Int)) = false := decide_eq_false (by omega))); (try first | (have a4d : decide ((s[0].toNat : Int) ≤ 57) = true := decide_eq_true (by omega)) | (have a4d : decide ((s[0].toNat : Int) ≤ 57) = false := decide_eq_false (by omega)))
          go_wp2
          all_goals
            go_ret
            exact ⟨ret_bool HF.out.symm, rfl⟩
        all_goals
          have e0 : ((k : Int) == 0) = false := by simp; omega
          have e1 : ((s[k].toNat : Int) != 95) = true := by simp; omega
          (try first | (have a1 : 97 ≤ (s[k].toNat : Int) := by omega) | (have a1 : (s[k].toNat : Int) < 97 := by omega)); (try first | (have a2 : (s[k].toNat : Int) ≤ 122 := by omega) | (have a2 : 122 < (s[k].toNat : Int) := by omega)); (try first | (have a3 : 48 ≤ (s[k].toNat : Int) := by omega) | (have a3 : (s[k].toNat : Int) < 48 := by omega)); (try first | (have a4 : (s[k].toNat : Int) ≤ 57 := by omega) | (have a4 : 57 < (s[k].toNat : Int) := by omega)); (try first | (have a1d : decide (97 ≤ (s[k].toNat : Int)) = true := decide_eq_true (by omega)) | (have a1d : decide (97 ≤ (s[k].toNat : Int)) = false := decide_eq_false (by omega))); (try first | (have a2d : decide ((s[k].toNat : Int) ≤ 122) = true := decide_eq_true (by omega)) | (have a2d : decide ((s[k].toNat : Int) ≤ 122) = false := decide_eq_false (by omega))); (try first | (have a3d : decide (48 ≤ (s[k].toNat : Int)) = true := decide_eq_true (by omega)) | (have a3d : decide (48 ≤ (s[k].toNat : Int)) = false := decide_eq_false (by omega))); (try first | (have a4d : decide ((s[k].toNat : Int) ≤ 57) = true := decide_eq_true (by omega)) | (have a4d : decide ((s[k].toNat : Int) ≤ 57) = false := decide_eq_false (by omega)))
          go_wp2
          all_goals
            go_ret
            exact ⟨ret_bool HF.out.symm, rfl⟩
    · have hkk : k = s.size := by omega
      have HF := Hid.mk' (named_yes (s := s) fun j hj => hrel.out j (by omega))
      subst hkk
      by_cases h1 : 1 ≤ s.size <;> by_cases h2 : s.size ≤ 31
      all_goals
        go_wp2
        all_goals go_ret
        all_goals exact ⟨ret_bool (by rw [HF.out] <;> first | (apply decide_eq_decide.2; omega) | (symm; rw [decide_eq_true_iff]; omega) | (symm; rw [decide_eq_false_iff_not]; omega)), rfl⟩

set_option maxRecDepth 20000 in set_option maxHeartbeats 400000 in
theorem rnamed_any (s : ByteArray) (w : World) (hs : s.size ≤ 9223372036854775807) :
    Calls Tryz.prog 96 #[.string s] w fun e w' => e = .returned (.bool (namedB s)) ∧ w = w' := by
  by_cases hl : 1 ≤ s.size ∧ s.size ≤ 31
  case neg =>
    have HF := Hid.mk' (named_len hl)
    by_cases h1 : s.size < 1
    · clear hl
      go_enter Tryz.func96, Tryz.ntmps96
      go_wp2
      go_ret
      exact ⟨ret_bool HF.out.symm, rfl⟩
    · have h2 : 31 < s.size := by omega
      clear hl
      go_enter Tryz.func96, Tryz.ntmps96
      go_wp2
      go_ret
      exact ⟨ret_bool HF.out.symm, rfl⟩
  obtain ⟨hl1, hl2⟩ := hl
  go_enter Tryz.func96, Tryz.ntmps96
  go_wp2
  go_loop [3] (fun i => ∃ k : Nat, k ≤ s.size ∧ i = .int .i64 k ∧ Hid (∀ j, j < k → nameAt s j = true)) (fun i => s.size - (intOf i).toNat)
  case atStart => exact ⟨0, Nat.zero_le _, rfl, fun j h => by omega⟩
  case round =>
    obtain ⟨k, hk, rfl, hrel⟩ := hrel
    by_cases hlt : k < s.size
    · rcases name_cases hlt with ⟨hn, hc⟩ | ⟨hn, hc⟩
      · have HN := Hid.mk' hn
        clear hn
        have HC := Hid.mk' hc
        clear hc
        rcases HC.out with ⟨h1, h2⟩ | ⟨h0, h1, h2⟩ | ⟨h0, h1⟩
        · clear HC
          go_wp2
          go_round
          case rel => exact ⟨k + 1, by omega, by go_num, fun j hj => by
            by_cases e : j = k
            · subst e; exact HN.out
            · exact hrel.out j (by omega)⟩
          case measure => simp [intOf]; omega
        · clear HC
          have h3 : (s[k].toNat : Int) < 97 := by omega
          go_wp2
          go_round
          case rel => exact ⟨k + 1, by omega, by go_num, fun j hj => by
            by_cases e : j = k
            · subst e; exact HN.out
            · exact hrel.out j (by omega)⟩
          case measure => simp [intOf]; omega
        · clear HC
          have e1 : ((s[k].toNat : Int) == 95) = true := by simp; omega
          have h3 : (s[k].toNat : Int) < 97 := by omega
          have h4 : 57 < (s[k].toNat : Int) := by omega
          clear h1
          go_wp2
          go_round
          case rel => exact ⟨k + 1, by omega, by go_num, fun j hj => by
            by_cases e : j = k
            · subst e; exact HN.out
            · exact hrel.out j (by omega)⟩
          case measure => simp [intOf]; omega
      · have HF := Hid.mk' (named_no hlt hn)
        clear hn
        rcases hc with ⟨rfl, h1⟩ | ⟨rfl, h1⟩ | ⟨h0, h1⟩ | ⟨h0, h1, h2⟩ | ⟨h0, h1, h2⟩ | ⟨h0, h1⟩
        · (try first | (have a1 : 97 ≤ (s[0].toNat : Int) := by omega) | (have a1 : (s[0].toNat : Int) < 97 := by omega)); (try first | (have a2 : (s[0].toNat : Int) ≤ 122 := by omega) | (have a2 : 122 < (s[0].toNat : Int) := by omega)); (try first | (have a3 : 48 ≤ (s[0].toNat : Int) := by omega) | (have a3 : (s[0].toNat : Int) < 48 := by omega)); (try first | (have a4 : (s[0].toNat : Int) ≤ 57 := by omega) | (have a4 : 57 < (s[0].toNat : Int) := by omega)); (try first | (have a1d : decide (97 ≤ (s[0].toNat : Int)) = true := decide_eq_true (by omega)) | (have a1d : decide (97 ≤ (s[0].toNat : Int)) = false := decide_eq_false (by omega))); (try first | (have a2d : decide ((s[0].toNat : Int) ≤ 122) = true := decide_eq_true (by omega)) | (have a2d : decide ((s[0].toNat : Int) ≤ 122) = false := decide_eq_false (by omega))); (try first | (have a3d : decide (48 ≤ (s[0].toNat : Int)) = true := decide_eq_true (by omega)) | (have a3d : decide (48 ≤ (s[0].toNat : Int)) = false := decide_eq_false (by omega))); (try first | (have a4d : decide ((s[0].toNat : Int) ≤ 57) = true := decide_eq_true (by omega)) | (have a4d : decide ((s[0].toNat : Int) ≤ 57) = false := decide_eq_false (by omega)))
          go_wp2
          all_goals
            go_ret
            exact ⟨ret_bool HF.out.symm, rfl⟩
        · (try first | (have a1 : 97 ≤ (s[0].toNat : Int) := by omega) | (have a1 : (s[0].toNat : Int) < 97 := by omega)); (try first | (have a2 : (s[0].toNat : Int) ≤ 122 := by omega) | (have a2 : 122 < (s[0].toNat : Int) := by omega)); (try first | (have a3 : 48 ≤ (s[0].toNat : Int) := by omega) | (have a3 : (s[0].toNat : Int) < 48 := by omega)); (try first | (have a4 : (s[0].toNat : Int) ≤ 57 := by omega) | (have a4 : 57 < (s[0].toNat : Int) := by omega)); (try first | (have a1d : decide (97 ≤ (s[0].toNat : Int)) = true := decide_eq_true (by omega)) | (have a1d : decide (97 ≤ (s[0].toNat : Int)) = false := decide_eq_false (by omega))); (try first | (have a2d : decide ((s[0].toNat : Int) ≤ 122) = true := decide_eq_true (by omega)) | (have a2d : decide ((s[0].toNat : Int) ≤ 122) = false := decide_eq_false (by omega))); (try first | (have a3d : decide (48 ≤ (s[0].toNat : Int)) = true := decide_eq_true (by omega)) | (have a3d : decide (48 ≤ (s[0].toNat : Int)) = false := decide_eq_false (by omega))); (try first | (have a4d : decide ((s[0].toNat : Int) ≤ 57) = true := decide_eq_true (by omega)) | (have a4d : decide ((s[0].toNat : Int) ≤ 57) = false := decide_eq_false (by omega)))
          go_wp2
          all_goals
            go_ret
            exact ⟨ret_bool HF.out.symm, rfl⟩
        all_goals
          have e1 : ((s[k].toNat : Int) == 95) = false := by simp; omega
          (try first | (have a1 : 97 ≤ (s[k].toNat : Int) := by omega) | (have a1 : (s[k].toNat : Int) < 97 := by omega)); (try first | (have a2 : (s[k].toNat : Int) ≤ 122 := by omega) | (have a2 : 122 < (s[k].toNat : Int) := by omega)); (try first | (have a3 : 48 ≤ (s[k].toNat : Int) := by omega) | (have a3 : (s[k].toNat : Int) < 48 := by omega)); (try first | (have a4 : (s[k].toNat : Int) ≤ 57 := by omega) | (have a4 : 57 < (s[k].toNat : Int) := by omega)); (try first | (have a1d : decide (97 ≤ (s[k].toNat : Int)) = true := decide_eq_true (by omega)) | (have a1d : decide (97 ≤ (s[k].toNat : Int)) = false := decide_eq_false (by omega))); (try first | (have a2d : decide ((s[k].toNat : Int) ≤ 122) = true := decide_eq_true (by omega)) | (have a2d : decide ((s[k].toNat : Int) ≤ 122) = false := decide_eq_false (by omega))); (try first | (have a3d : decide (48 ≤ (s[k].toNat : Int)) = true := decide_eq_true (by omega)) | (have a3d : decide (48 ≤ (s[k].toNat : Int)) = false := decide_eq_false (by omega))); (try first | (have a4d : decide ((s[k].toNat : Int) ≤ 57) = true := decide_eq_true (by omega)) | (have a4d : decide ((s[k].toNat : Int) ≤ 57) = false := decide_eq_false (by omega)))
          go_wp2
          all_goals
            go_ret
            exact ⟨ret_bool HF.out.symm, rfl⟩
    · have hkk : k = s.size := by omega
      have HF := Hid.mk' (named_yes (s := s) fun j hj => hrel.out j (by omega))
      subst hkk
      go_wp2
      go_ret
      exact ⟨ret_bool (by rw [HF.out]; symm; rw [decide_eq_true_iff]; omega), rfl⟩

end Go.Proofs.YtdgalkljngigeaaGreat
