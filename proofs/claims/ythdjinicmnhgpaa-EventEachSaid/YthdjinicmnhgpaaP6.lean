/-
The laws' Back of a relation.
-/
import Derived.Deep.RegionHeld
import Derived.Test.YthdjinicmnhgpaaP5
namespace Go.Proofs.Ythdjinicmnhgpaa
open Go.RowKit

theorem Try.infoRCol : (Try.prog.info? 122).map (fun i => (i.zero, i.size, i.bytes)) = some (some (.agg #[.string ByteArray.empty, .int .u8 0, .bool false]), 3, 24) := by kernel_rfl

set_option maxRecDepth 100000 in set_option maxHeartbeats 1600000 in
theorem back8_any (oid ver : Int) (nm : ByteArray) (id : Int) (cols : List Col) (a : Option Addr) (cap : Nat) (w : World) (hl : Sl w (.slice a cols.length cap) 3 (cols.map Col.cells)) (hlen : cols.length ≤ 1000) :
    Calls Try.prog 23 #[.agg #[.int .u32 oid, .int .u32 ver, .string nm, .int .u8 id, .slice a cols.length cap]] w fun e w' => ∃ a' cap', e = .returned (.agg #[.int .u32 oid, .int .u32 ver, .string nm, .int .u8 id, .slice a' cols.length cap']) ∧ cols.length ≤ cap' ∧ w'.ownsRow w.heap.size 122 3 (.slice a' cols.length cap') cols.length (cols.map Col.cells).flatten ∧ Ext w w' := by
  have HL := Hid.mk' hl
  clear hl
  obtain ⟨i0, hi, hz0, hz1, hz2⟩ := info_parts Try.infoRCol
  go_enter Try.func23, Try.ntmps23
  go_wp2
  go_loopw [4] (fun i wr => ∃ (k : Nat) (v : Value), k ≤ cols.length ∧ i = .int .i64 k ∧ Hid (wr.ownsRow (w.heap.size + 3) 122 3 v k ((cols.map Col.cells).take k).flatten) ∧ Blk wr w.heap.size #[.int .u32 oid, .int .u32 ver, .string nm, .int .u8 id, .slice a cols.length cap] 36 ∧ Blk wr (w.heap.size + 1) #[.int .u32 0, .int .u32 0, .string ⟨#[]⟩, .int .u8 0, .slice none 0 0] 49 ∧ Blk wr (w.heap.size + 1 + 1) #[.int .u32 oid, .int .u32 ver, .string nm, .int .u8 id, v] 49 ∧ Hid (Ext w wr)) (fun i _ => cols.length - (intOf i).toNat)
  case atStart => exact ⟨0, .slice none 0 0, Nat.zero_le _, rfl, World.ownsRow_nil _ _ _ _, ((Blk.new _ _ _).alloc _).alloc _, (Blk.new' _ _ (by simp)).alloc _, Blk.new' _ _ (by simp), Hid.mk' (by (repeat (with_reducible (first | exact Ext.refl _ | assumption | exact held_left (by assumption) | apply Ext.drewN | apply Ext.drew | apply Ext.alloc | (refine Ext.setCell ?_ (by first | (simp; done) | (simp; omega) | omega) _) | (refine Ext.trans ?_ (by assumption)) | (refine Ext.trans ?_ (held_left (by assumption)))))))⟩
  case round =>
    obtain ⟨k, v, hk, rfl, hown, hB0, hB1, hB2, hE⟩ := hrel
    by_cases hlt : k < cols.length
    · obtain ⟨b, o, rfl, hb, hc⟩ := HL.out.at_ (i := k) (by simpa using hlt)
      obtain ⟨f0, f1, f2⟩ := Col.at_ hlt hc hb hE.out
      have hT := Hid.mk' (flat_snoc (f := Col.cells) hlt)
      obtain ⟨c, hcc⟩ : ∃ c, c = cols[k] := ⟨_, rfl⟩
      rw [← hcc] at f0 f1 f2 hT
      have hbw : b < wr.heap.size := Nat.lt_of_lt_of_le hb hE.out.size
      have HC := Hid.mk' hcc
      clear hcc hc
      have g0 := hB0.cell
      have g2 := hB2.cell
      have z0 := hB0.lt
      have z1 := hB1.lt
      have z2 := hB2.lt
      have HB0 := Hid.mk' hB0
      have HB1 := Hid.mk' hB1
      have HB2 := Hid.mk' hB2
      clear hB0 hB1 hB2
      go_wp2
      refine wp_region_head 22 (fun w' => Ext (wr) w' ∧ (∀ b o, b < (wr).heap.size → w'.cell? ⟨b, o, none⟩ = (wr).cell? ⟨b, o, none⟩) ∧ (∀ b o, b < (wr).heap.size → w'.frozen? ⟨b, o, none⟩ = (wr).frozen? ⟨b, o, none⟩)) (by kernel_rfl) (by decide) ?_
      have hA0 : Hid ((fun w' => Ext (wr) w' ∧ (∀ b o, b < (wr).heap.size → w'.cell? ⟨b, o, none⟩ = (wr).cell? ⟨b, o, none⟩) ∧ (∀ b o, b < (wr).heap.size → w'.frozen? ⟨b, o, none⟩ = (wr).frozen? ⟨b, o, none⟩)) wr.drew) := held_of (by (repeat (with_reducible (first | exact Ext.refl _ | assumption | exact held_left (by assumption) | apply Ext.drewN | apply Ext.drew | apply Ext.alloc | (refine Ext.setCell ?_ (by first | (simp; done) | (simp; omega) | omega) _) | (refine Ext.trans ?_ (by assumption)) | (refine Ext.trans ?_ (held_left (by assumption)))))))
      (refine wpHd_take (i := 0) (v := ?_) rfl (by kernel_rfl) (by kernel_rfl) (by kernel_rfl) (fun _ _ _ h => h) (Or.inl ⟨by rfl, ?_⟩) hA0.out ?_; rotate_left 1; · (intro w' hS'; (obtain ⟨hEs', hcs', hfs'⟩ := hS'); go_simp; try with_reducible rfl))
      (refine wpHd_take (i := 1) (v := ?_) rfl (by kernel_rfl) (by kernel_rfl) (by kernel_rfl) (fun _ _ _ h => h) (Or.inl ⟨by rfl, ?_⟩) hA0.out ?_; rotate_left 1; · (intro w' hS'; (obtain ⟨hEs', hcs', hfs'⟩ := hS'); go_simp; try with_reducible rfl))
      (refine wpHd_take (i := 2) (v := ?_) rfl (by kernel_rfl) (by kernel_rfl) (by kernel_rfl) (fun _ _ _ h => h) (Or.inl ⟨by rfl, ?_⟩) hA0.out ?_; rotate_left 1; · (intro w' hS'; (obtain ⟨hEs', hcs', hfs'⟩ := hS'); go_simp; try with_reducible rfl))
      (refine wpHd_take (i := 3) (v := ?_) rfl (by kernel_rfl) (by kernel_rfl) (by kernel_rfl) (fun _ _ _ h => h) (Or.inl ⟨by rfl, ?_⟩) hA0.out ?_; rotate_left 1; · (intro w' hS'; (obtain ⟨hEs', hcs', hfs'⟩ := hS'); go_simp; try with_reducible rfl))
      (refine wpHd_take (i := 4) (v := ?_) rfl (by kernel_rfl) (by kernel_rfl) (by kernel_rfl) (fun _ _ _ h => h) (Or.inl ⟨by rfl, ?_⟩) hA0.out ?_; rotate_left 1; · (intro w' hS'; (obtain ⟨hEs', hcs', hfs'⟩ := hS'); go_simp; try with_reducible rfl))
      (refine wpHd_take (i := 5) (v := ?_) rfl (by kernel_rfl) (by kernel_rfl) (by kernel_rfl) (fun _ _ _ h => h) (Or.inl ⟨by rfl, ?_⟩) hA0.out ?_; rotate_left 1; · (intro w' hS'; (obtain ⟨hEs', hcs', hfs'⟩ := hS'); go_simp; try with_reducible rfl))
      (refine wpHd_take (i := 6) (v := ?_) rfl (by kernel_rfl) (by kernel_rfl) (by kernel_rfl) (fun _ _ _ h => h) (Or.inl ⟨by rfl, ?_⟩) hA0.out ?_; rotate_left 1; · (intro w' hS'; (obtain ⟨hEs', hcs', hfs'⟩ := hS'); go_simp; try with_reducible rfl))
      (refine wpHd_take (i := 7) (v := ?_) rfl (by kernel_rfl) (by kernel_rfl) (by kernel_rfl) (fun _ _ _ h => h) (Or.inl ⟨by rfl, ?_⟩) hA0.out ?_; rotate_left 1; · (intro w' hS'; (obtain ⟨hEs', hcs', hfs'⟩ := hS'); go_simp; try with_reducible rfl))
      (refine wpHd_take (i := 8) (v := ?_) rfl (by kernel_rfl) (by kernel_rfl) (by kernel_rfl) (fun _ _ _ h => h) (Or.inl ⟨by rfl, ?_⟩) hA0.out ?_; rotate_left 1; · (intro w' hS'; (obtain ⟨hEs', hcs', hfs'⟩ := hS'); go_simp; try with_reducible rfl))
      (refine wpHd_take (i := 9) (v := ?_) rfl (by kernel_rfl) (by kernel_rfl) (by kernel_rfl) (fun _ _ _ h => h) (Or.inl ⟨by rfl, ?_⟩) hA0.out ?_; rotate_left 1; · (intro w' hS'; (obtain ⟨hEs', hcs', hfs'⟩ := hS'); go_simp; try with_reducible rfl))
      (refine wpHd_take (i := 10) (v := ?_) rfl (by kernel_rfl) (by kernel_rfl) (by kernel_rfl) (fun _ _ _ h => h) (Or.inl ⟨by rfl, ?_⟩) hA0.out ?_; rotate_left 1; · (intro w' hS'; (obtain ⟨hEs', hcs', hfs'⟩ := hS'); go_simp; try with_reducible rfl))
      (refine wpHd_take (i := 11) (v := ?_) rfl (by kernel_rfl) (by kernel_rfl) (by kernel_rfl) (fun _ _ _ h => h) (Or.inl ⟨by rfl, ?_⟩) hA0.out ?_; rotate_left 1; · (intro w' hS'; (obtain ⟨hEs', hcs', hfs'⟩ := hS'); go_simp; try with_reducible rfl))
      (refine wpHd_take (i := 12) (v := ?_) rfl (by kernel_rfl) (by kernel_rfl) (by kernel_rfl) (fun _ _ _ h => h) (Or.inl ⟨by rfl, ?_⟩) hA0.out ?_; rotate_left 1; · (intro w' hS'; (obtain ⟨hEs', hcs', hfs'⟩ := hS'); go_simp; try with_reducible rfl))
      (refine wpHd_take (i := 13) (v := ?_) rfl (by kernel_rfl) (by kernel_rfl) (by kernel_rfl) (fun _ _ _ h => h) (Or.inl ⟨by rfl, ?_⟩) hA0.out ?_; rotate_left 1; · (intro w' hS'; (obtain ⟨hEs', hcs', hfs'⟩ := hS'); go_simp; try with_reducible rfl))
      (refine wpHd_take (i := 14) (v := ?_) rfl (by kernel_rfl) (by kernel_rfl) (by kernel_rfl) (fun _ _ _ h => h) (Or.inl ⟨by rfl, ?_⟩) hA0.out ?_; rotate_left 1; · (intro w' hS'; (obtain ⟨hEs', hcs', hfs'⟩ := hS'); go_simp; try with_reducible rfl))
      (refine wpHd_take (i := 15) (v := ?_) rfl (by kernel_rfl) (by kernel_rfl) (by kernel_rfl) (fun _ _ _ h => h) (Or.inl ⟨by rfl, ?_⟩) hA0.out ?_; rotate_left 1; · (intro w' hS'; (obtain ⟨hEs', hcs', hfs'⟩ := hS'); go_simp; try with_reducible rfl))
      (refine wpHd_take (i := 16) (v := ?_) rfl (by kernel_rfl) (by kernel_rfl) (by kernel_rfl) (fun _ _ _ h => h) (Or.inl ⟨by rfl, ?_⟩) hA0.out ?_; rotate_left 1; · (intro w' hS'; (obtain ⟨hEs', hcs', hfs'⟩ := hS'); go_simp; try with_reducible rfl))
      (refine wpHd_take (i := 17) (v := ?_) rfl (by kernel_rfl) (by kernel_rfl) (by kernel_rfl) (fun _ _ _ h => h) (Or.inl ⟨by rfl, ?_⟩) hA0.out ?_; rotate_left 1; · (intro w' hS'; (obtain ⟨hEs', hcs', hfs'⟩ := hS'); go_simp; try with_reducible rfl))
      (refine wpHd_take (i := 18) (v := ?_) rfl (by kernel_rfl) (by kernel_rfl) (by kernel_rfl) (fun _ _ _ h => h) (Or.inl ⟨by rfl, ?_⟩) hA0.out ?_; rotate_left 1; · (intro w' hS'; (obtain ⟨hEs', hcs', hfs'⟩ := hS'); go_simp; try with_reducible rfl))
      (refine wpHd_take (i := 19) (v := ?_) rfl (by kernel_rfl) (by kernel_rfl) (by kernel_rfl) (fun _ _ _ h => h) (Or.inl ⟨by rfl, ?_⟩) hA0.out ?_; rotate_left 1; · (intro w' hS'; (obtain ⟨hEs', hcs', hfs'⟩ := hS'); go_simp; try with_reducible rfl))
      (refine wpHd_take (i := 20) (v := ?_) rfl (by kernel_rfl) (by kernel_rfl) (by kernel_rfl) (fun _ _ _ h => h) (Or.inl ⟨by rfl, ?_⟩) hA0.out ?_; rotate_left 1; · (intro w' hS'; (obtain ⟨hEs', hcs', hfs'⟩ := hS'); go_simp; try with_reducible rfl))
      refine wpHd_one (i := 21) rfl rfl (by kernel_rfl) (fun K hK => ?_)
      go_simp
      refine hK.out _ _ (held_of (by (repeat (with_reducible (first | exact Ext.refl _ | assumption | exact held_left (by assumption) | apply Ext.drewN | apply Ext.drew | apply Ext.alloc | (refine Ext.setCell ?_ (by first | (simp; done) | (simp; omega) | omega) _) | (refine Ext.trans ?_ (by assumption)) | (refine Ext.trans ?_ (held_left (by assumption)))))))) (fun hA => ?_)
      clear hK K hA hA0
      refine wpHd_tail (by kernel_rfl) ?_
      simp only [List.drop_succ_cons, List.drop_zero]
      have hob := owns_ne hown.out (show w.heap.size + 1 + 1 < w.heap.size + 3 by omega)
      go_wp2_with (at_builtin; refine wpList_append_lies _ rfl _ _ 47 rfl (w.heap.size + 3) 122 i0 _ 3 24 Try.underlying47 hi hz0 hz1 hz2 rfl (by decide) _ _ _ rfl (owns_ext hown.out (by (repeat (with_reducible (first | exact Ext.refl _ | assumption | exact held_left (by assumption) | apply Ext.drewN | apply Ext.drew | apply Ext.alloc | (refine Ext.setCell ?_ (by first | (simp; done) | (simp; omega) | omega) _) | (refine Ext.trans ?_ (by assumption)) | (refine Ext.trans ?_ (held_left (by assumption)))))))) ⟨_, 0, none⟩ 1 1 c.cells rfl rfl ?c1 ?c2 (by decide) ?c3 ?c4 ?c5 _ rfl ?_)
      case c1 => exact cells_new _ #[.string c.nm, .int .u8 c.ty, .bool c.key] _
      case c2 => intro u hu; simp [Col.cells] at hu; rcases hu with rfl | rfl | rfl <;> rfl
      case c3 => unfold maxLen; omega
      case c4 => omega
      case c5 => simp; omega
      intro g' cap' w2 hown' hgrow _ _
      have hE1 : Ext wr (wr.drew.alloc (.cells #[.string c.nm, .int .u8 c.ty, .bool c.key] 122)) := by (repeat (with_reducible (first | exact Ext.refl _ | assumption | exact held_left (by assumption) | apply Ext.drewN | apply Ext.drew | apply Ext.alloc | (refine Ext.setCell ?_ (by first | (simp; done) | (simp; omega) | omega) _) | (refine Ext.trans ?_ (by assumption)) | (refine Ext.trans ?_ (held_left (by assumption))))))
      have HE2 : Hid (Ext w w2) := Hid.mk' (Below.grown (hE.out.trans hE1) hgrow (hE.out.trans hE1).size (fun g hg => by have := (hown.out.lt g hg).1; omega))
      have hsz2 := hgrow.size
      have HB0' := Hid.mk' ((HB0.out.ext hE1).grown hgrow (owns_ne hown.out (by omega)))
      have HB1' := Hid.mk' ((HB1.out.ext hE1).grown hgrow (owns_ne hown.out (by omega)))
      have hB2' := (HB2.out.ext hE1).grown hgrow hob
      have g2' := hB2'.cell
      have g2f := hB2'.frozen
      have z2' := hB2'.lt
      have HB2' := Hid.mk' hB2'
      have HO := Hid.mk' hown'
      clear hB2' hown' hgrow hE1 hob
      go_wp2
      go_roundw
      case rel => exact ⟨k + 1, _, by omega, by go_num, Hid.mk' (by rw [hT.out]; exact owns_set (p := ⟨w.heap.size + 1 + 1, 4, none⟩) HO.out (by show w.heap.size + 1 + 1 < _; omega) _), HB0'.out.other _ _ (by show w.heap.size ≠ w.heap.size + 1 + 1; omega), HB1'.out.other _ _ (by show w.heap.size + 1 ≠ w.heap.size + 1 + 1; omega), HB2'.out.set 4 _, Hid.mk' (HE2.out.setCell (by simp; omega) _)⟩
      case measure => simp [intOf]; omega
    · have hkk : k = cols.length := by omega
      subst hkk
      rw [show cols.length = (cols.map Col.cells).length by simp, List.take_length] at hown
      rw [List.length_map] at hown
      obtain ⟨a', c', rfl⟩ := owns_shape hown.out
      have g0 := hB0.cell
      have z0 := hB0.lt
      have g1 := hB1.cell
      have g1f := hB1.frozen
      have g2 := hB2.cell
      have z1 := hB1.lt
      have z2 := hB2.lt
      clear hB0 hB1 hB2
      go_wp2
      simp [bodyPost, results, Try.results23, go_sem, *]
      refine ⟨_, _, ⟨rfl, rfl⟩, owns_cap hown.out, owns_base (base := w.heap.size + 3) ?_ (by omega), ?_⟩
      · have hown := hown.out
        repeat (with_reducible (first | exact hown | refine owns_set ?_ (by show w.heap.size + 1 < _; omega) _))
      · have hE := hE.out
        (repeat (with_reducible (first | exact Ext.refl _ | assumption | exact held_left (by assumption) | apply Ext.drewN | apply Ext.drew | apply Ext.alloc | (refine Ext.setCell ?_ (by first | (simp; done) | (simp; omega) | omega) _) | (refine Ext.trans ?_ (by assumption)) | (refine Ext.trans ?_ (held_left (by assumption))))))


def RR.rowned (N : Nat) (W : World) (q : RR) : Prop := W.ownsRow N 122 3 (.slice q.a q.r.cols.length q.c) q.r.cols.length (q.r.cols.map Col.cells).flatten
theorem RR.rowned.in {N : Nat} {W : World} {q : RR} (h : q.rowned N W) : q.in W := Sl.of_owns (base := N) (e := 122) (by rw [List.length_map]; exact h) (by intro xs hxs; simp at hxs; obtain ⟨_, _, rfl⟩ := hxs; rfl)
theorem RR.rowned.at_ {N : Nat} {W : World} {q : RR} (h : q.rowned N W) {b o : Nat} (e : q.a = some ⟨b, o, none⟩) : N ≤ b ∧ b < W.heap.size := h.lt b (by rw [e]; rfl)
theorem RR.rowned.ext {N : Nat} {W W' : World} {q : RR} (h : q.rowned N W) (he : Ext W W') : q.rowned N W' := owns_ext h he
theorem RR.rowned.mono {N M : Nat} {W : World} {q : RR} (h : q.rowned N W) (hm : M ≤ N) : q.rowned M W := owns_base h hm
theorem pback_own (p : RR) (w : World) (hp : p.in w) (hlen : p.r.cols.length ≤ 1000) :
    Calls Try.prog 23 #[p.agg] w fun e w' => ∃ q : RR, e = .returned q.agg ∧ q.r = p.r ∧ q.rowned w.heap.size w' ∧ Ext w w' := by
  obtain ⟨⟨oid, ver, nm, id, cols⟩, a, cap⟩ := p
  refine (back8_any oid ver nm id cols a cap w hp hlen).mono fun e w' h => ?_
  obtain ⟨a', c', h1, h2, h3, h4⟩ := h
  exact ⟨⟨⟨oid, ver, nm, id, cols⟩, a', c'⟩, h1, rfl, h3, h4⟩
theorem pback_any (p : RR) (w : World) (hp : p.in w) (hlen : p.r.cols.length ≤ 1000) :
    Calls Try.prog 23 #[p.agg] w fun e w' => ∃ q : RR, e = .returned q.agg ∧ q.r = p.r ∧ q.in w' ∧ (∀ b o, q.a = some ⟨b, o, none⟩ → w.heap.size ≤ b) ∧ Ext w w' := by
  obtain ⟨⟨oid, ver, nm, id, cols⟩, a, cap⟩ := p
  refine (back8_any oid ver nm id cols a cap w hp hlen).mono fun e w' h => ?_
  obtain ⟨a', c', h1, h2, h3, h4⟩ := h
  exact ⟨⟨⟨oid, ver, nm, id, cols⟩, a', c'⟩, h1, rfl, Sl.of_owns (base := w.heap.size) (e := 122) (by rw [List.length_map]; exact h3) (by intro xs hxs; simp at hxs; obtain ⟨_, _, rfl⟩ := hxs; rfl), fun b o e => (h3.lt b (by rw [show a' = some ⟨b, o, none⟩ from e]; rfl)).1, h4⟩

end Go.Proofs.Ythdjinicmnhgpaa

/-
All relations of a catalog, as the document's: the laws' Back.
-/
namespace Go.Proofs.Ythdjinicmnhgpaa
open Go.RowKit Go.Shelf
attribute [local go_sem] Oper.semAt_some

theorem run_equalIn_func_nil {P : Program} (w : World) (d : Nat) (t : TypeId) (f : Fn) (xs ys : Array Value) {p : Array TypeId} {r : Array TypeId} {v : Bool} (h : P.underlying t = some (.func p r v)) : (Op.equalIn (d + 1) t (.func f xs ys) .nilFunc).run P w = .ok false w := by
  simp [Op.equalIn, run_underlying h]
@[go_sem] theorem run_eql_func_nil {P : Program} (w : World) (t : TypeId) (f : Fn) (xs ys : Array Value) {p : Array TypeId} {r : Array TypeId} {v : Bool} (h : P.underlying t = some (.func p r v)) : (binOp .eql t (.func f xs ys) .nilFunc).run P w = .ok (.bool false) w := by
  have e : (Op.equal t (.func f xs ys) .nilFunc).run P w = .ok false w := by
    exact run_equalIn_func_nil w 9999 t f xs ys h
  simp [binOp, e]

theorem stepIn_append {F : Fence} {n : Nat} {P : Program} {ops : Array Oper} {o : Oper} {a : Act} {w : World} {K : Act → World → Prop} {Q : Exit → Act → World → Prop} {E : Prop} (hg : o.guard = none) (s x : Operand) (t : TypeId) (hop : o.op = Op.call { callee := Callee.builtin Builtin.append, args := #[s, x], argTypes := #[t, t] })
    (v u : Value) (hs : a.eval s = v) (hx : a.eval x = u) {v' : Value} {w' : World} (hrun : (Builtin.append_ #[t, t] o.type #[v, u]).run P w = .ok v' w') (hK : K (a.put o.dst v') w') : if Region.wanted o (yielded ops a.tmps) = true then Oper.wpIn F n P o a w K Q else E := by
  rw [if_pos (by simp [Region.wanted, hg])]
  unfold Oper.wpIn
  refine ⟨?_, ?_⟩
  · simp [Oper.about, hop, resolve, Target.leads, Sem.run_pure]
  · rw [Oper.semAt_plain F _ _ (by rw [hop]; intro c hc'; cases hc')]
    simp [execOp, hop, resolve, invoke, builtin, hs, hx, hrun, Result.andThen]
    exact hK

/-- Relations of the document of the call's own, in a row of its own. -/
structure BkR (W : World) (N : Nat) (rs : List Rl) (v : Value) (qs : List RR) : Prop where
  own : W.ownsRow N 49 5 v qs.length (qs.map RR.cells).flatten
  r : qs.map RR.r = rs
  sl : ∀ q ∈ qs, q.rowned N W
  ne : ∀ q ∈ qs, ∀ b o, q.a = some ⟨b, o, none⟩ → v.ownBlock ≠ some b
theorem BkR.nil (W : World) (N : Nat) : BkR W N [] (.slice none 0 0) [] := ⟨World.ownsRow_nil _ _ _ _, rfl, (fun q h => by cases h), (fun q h => by cases h)⟩
theorem BkR.ext {W W' : World} {N : Nat} {rs : List Rl} {qs : List RR} {v : Value} (h : BkR W N rs v qs) (he : Ext W W') : BkR W' N rs v qs := ⟨owns_ext h.own he, h.r, fun q hq => (h.sl q hq).ext he, h.ne⟩
theorem rowned_kp {S : Nat → Prop} {W W' : World} {N : Nat} {x : RR} (h2 : x.rowned N W) (hk1 : Kp S W W') (h3 : ∀ b o, x.a = some ⟨b, o, none⟩ → ¬ S b) : x.rowned N W' := by
  refine owns_kp h2 hk1 (fun b hb => ?_)
  obtain ⟨xr, xa, xc⟩ := x
  cases xa with
  | none => cases hb
  | some ad =>
    obtain ⟨b', o', sp⟩ := ad
    have hb' : b' = b := by simpa [Value.ownBlock] using hb
    subst hb'
    rcases h2.2 with ⟨hv, -⟩ | ⟨g, cap, cur, hv, -⟩
    · cases hv
    · simp only [Value.slice.injEq, Option.some.injEq, Addr.mk.injEq] at hv
      obtain ⟨⟨rfl, rfl, rfl⟩, -⟩ := hv
      exact h3 _ _ rfl
theorem BkR.kept {W W' : World} {N : Nat} {rs : List Rl} {qs : List RR} {v : Value} {row : Option Nat} (h : BkR W N rs v qs) (hg : W.grownBy W' row) (hr : ∀ r, row = some r → ∃ o : Obj, W.heap[r]? = some o ∧ o.isCells = false) : BkR W' N rs v qs :=
  ⟨owns_kept h.own hg hr, h.r, fun q hq => owns_kept (h.sl q hq) hg hr, h.ne⟩
theorem BkR.set {W : World} {N : Nat} {rs : List Rl} {qs : List RR} {v : Value} (h : BkR W N rs v qs) {p : Addr} (hp : p.block < N) (u : Value) : BkR (W.setCell p u) N rs v qs := ⟨owns_set h.own hp u, h.r, fun q hq => owns_set (h.sl q hq) hp u, h.ne⟩
theorem BkR.push {W W' : World} {N : Nat} {rs : List Rl} {qs : List RR} {v v' : Value} {q : RR} (h : BkR W N rs v qs) (hs : q.rowned N W) (hn : ∀ b o, q.a = some ⟨b, o, none⟩ → v.ownBlock ≠ some b)
    (hg : W.grownBy W' v.ownBlock) (hat : v'.ownBlock = v.ownBlock ∨ v'.ownBlock = some W.heap.size) (ho : W'.ownsRow N 49 5 v' (qs.length + 1) ((qs.map RR.cells).flatten ++ q.cells)) : BkR W' N (rs ++ [q.r]) v' (qs ++ [q]) := by
  have hall : ∀ x ∈ qs ++ [q], x.rowned N W ∧ ∀ b o, x.a = some ⟨b, o, none⟩ → v.ownBlock ≠ some b := fun x hx => by
    rcases List.mem_append.1 hx with hx | hx
    · exact ⟨h.sl x hx, h.ne x hx⟩
    · obtain rfl : x = q := by simpa using hx
      exact ⟨hs, hn⟩
  refine ⟨by simpa using ho, by rw [List.map_append, h.r]; rfl, fun x hx => rowned_kp (hall x hx).1 (Kp.of_grown hg) (hall x hx).2, fun x hx b o e => ?_⟩
  obtain ⟨h2, h3⟩ := hall x hx
  rcases hat with h4 | h4
  · rw [h4]; exact h3 b o e
  · rw [h4]; intro h5; injection h5 with h5
    have := (h2.at_ e).2; omega
theorem BkR.rl {W : World} {N : Nat} {rs : List Rl} {qs : List RR} {v : Value} (h : BkR W N rs v qs) : RL W v qs := ⟨Sl.of_owns (base := N) (e := 49) (by rw [List.length_map]; exact h.own) (RR.len qs), fun q hq => (h.sl q hq).in⟩

set_option maxRecDepth 100000 in
set_option maxHeartbeats 8000000 in
theorem back9_in (F : Fence) (n : Nat) (hFe : F = Fence.wide) (h1F : F.fn 81) (hAF : F.fn 52) (hOF : F.fn 51) (hBF : F.fn 23) (hDF : F.fn 16) (hro : F.round = none) (hn : 4 ≤ n) (N g : Nat) (c : Value) (ps : List RR) (w : World) (hc : Ca w N g c ps) :
    CallsIn F n Try.prog 16 #[.pointer (some ⟨g, 0, none⟩)] w fun e w' => ∃ a' c' qs, e = .returned (.tuple #[.slice a' qs.length c', .bool true]) ∧ BkR w' w.heap.size (ps.map RR.r) (.slice a' qs.length c') qs ∧ Ext w w' := by
  have h1 : 1 ≤ n := by omega
  have HC := Hid.mk' hc
  have HB8 := Hid.mk' (fun m (p : RR) W (h : p.in W) (hn : p.r.cols.length ≤ 1000) => (show CallsIn F m Try.prog 23 #[p.agg] W _ from by rw [hFe]; exact callsIn_wide.2 (pback_own p W h hn)))
  obtain ⟨i0, hi, hz0, hz1, hz2⟩ := info_parts Try.infoRRel
  have HFE := Hid.mk' hFe
  have mixed : Try.prog.follows .mixedOrders = true := by kernel_rfl
  have hfn : ∀ (W : World) (ys : Array Value), (binOp .eql 118 (.func (.func 81) #[] ys) .nilFunc).run Try.prog W = .ok (.bool false) W := fun W ys => run_eql_func_nil W _ _ _ _ (show Try.prog.underlying 118 = some (.func #[149] #[] false) by kernel_rfl)
  clear hc hFe
  refine callsIn_of_wp_marks Try.func16 rfl hDF ?_ hro
  simp only [Try.ntmps16, List.size_toArray, List.length_cons, List.length_nil, Nat.reduceAdd, Nat.reduceSub, Array.replicate_succ, Array.replicate_zero, List.push_toArray, List.append_toArray, List.nil_append, List.cons_append]
  gi_wp2_with (gi_at_call 52; refine (all_in F (n - 1) hAF hro _ _).mono ?_; rintro e w' ⟨rfl, rfl⟩)
  have hE4 : Ext w ((((w.alloc (.cells #[.slice none 0 0] 22)).alloc (.cells #[.bool false] 4)).alloc (.cells #[.slice none 0 0] 22)).alloc (.cells #[.pointer (some ⟨g, 0, none⟩)] 27)) := by (repeat (with_reducible (first | exact Ext.refl _ | assumption | exact held_left (by assumption) | apply Ext.drewN | apply Ext.drew | apply Ext.alloc | (refine Ext.setCell ?_ (by first | (simp; done) | (simp; omega) | omega) _) | (refine Ext.trans ?_ (by assumption)) | (refine Ext.trans ?_ (held_left (by assumption))))))
  have hB4 : Blk ((((w.alloc (.cells #[.slice none 0 0] 22)).alloc (.cells #[.bool false] 4)).alloc (.cells #[.slice none 0 0] 22)).alloc (.cells #[.pointer (some ⟨g, 0, none⟩)] 27)) (w.heap.size + 1 + 1 + 1) #[.pointer (some ⟨g, 0, none⟩)] 27 := Blk.new' _ _ (by simp)
  obtain ⟨W4, hW4⟩ : ∃ W4, W4 = ((((w.alloc (.cells #[.slice none 0 0] 22)).alloc (.cells #[.bool false] 4)).alloc (.cells #[.slice none 0 0] 22)).alloc (.cells #[.pointer (some ⟨g, 0, none⟩)] 27)) := ⟨_, rfl⟩
  have hz4 : W4.heap.size = w.heap.size + 1 + 1 + 1 + 1 := by rw [hW4]; simp
  have hR0 : Blk W4 w.heap.size #[.slice none 0 0] 22 := by rw [hW4]; exact (((Blk.new _ _ _).alloc _).alloc _).alloc _
  have hR1 : Blk W4 (w.heap.size + 1) #[.bool false] 4 := by rw [hW4]; exact ((Blk.new' _ _ (by simp)).alloc _).alloc _
  have hR2 : Blk W4 (w.heap.size + 1 + 1) #[.slice none 0 0] 22 := by rw [hW4]; exact (Blk.new' _ _ (by simp)).alloc _
  rw [← hW4] at hE4 hB4 ⊢
  have HE4 := Hid.mk' hE4
  clear hW4 hE4
  clear hfn
  refine wpIn_range_told hro h1 (gf := 81) (lb := #[.pointer (some ⟨w.heap.size + 1 + 1 + 1, 0, none⟩)]) rfl h1F (enters_of Try.func81 (by kernel_rfl) rfl)
    (all_told F (n - 1) HFE.out h1F hOF hro (by omega) (w.heap.size + 1 + 1 + 1) w W4 N g c ps HC.out HE4.out (hB4.cell 0) hB4.lt) (by omega) (Below.refl _ _) (fun _ => rfl)
    (fun pre W => (∃ a' c' qs, Blk W (w.heap.size + 1 + 1) #[.slice a' qs.length c'] 22 ∧ Hid (BkR W (w.heap.size + 1 + 1 + 1) (pre.map RR.r) (.slice a' qs.length c') qs)) ∧ Blk W w.heap.size #[.slice none 0 0] 22 ∧ Blk W (w.heap.size + 1) #[.bool false] 4 ∧ Hid (Below w.heap.size w W ∧ W4.heap.size ≤ W.heap.size)) ?hI
    ⟨⟨none, 0, [], hR2, Hid.mk' (BkR.nil _ _)⟩, hR0, hR1, Hid.mk' ⟨HE4.out, Nat.le_refl _⟩⟩
    (fun x a' W => ∃ X Y, a' = { tmps := #[.pointer (some ⟨g, 0, none⟩), undef, .pointer (some ⟨w.heap.size, 0, none⟩), .pointer (some ⟨w.heap.size + 1, 0, none⟩), .pointer (some ⟨w.heap.size + 1 + 1, 0, none⟩), .func (.func 81) #[] #[.pointer (some ⟨w.heap.size + 1 + 1 + 1, 0, none⟩)], .pointer (some ⟨X, 0, none⟩), .pointer (some ⟨Y, 0, none⟩), .pointer (some ⟨g, 0, none⟩), .bool false, .pointer (some ⟨g, 0, none⟩), .func (.func 81) #[] #[.pointer (some ⟨w.heap.size + 1 + 1 + 1, 0, none⟩)], .func (.func 81) #[] #[.pointer (some ⟨w.heap.size + 1 + 1 + 1, 0, none⟩)], .bool false, .func (.func 81) #[] #[.pointer (some ⟨w.heap.size + 1 + 1 + 1, 0, none⟩)], .agg #[.int .u32 x.r.oid, .int .u32 x.r.ver], .agg #[.int .u32 x.r.oid, .int .u32 x.r.ver, .string x.r.nm, .int .u8 x.r.id, .slice x.a x.r.cols.length x.c], undef, undef, undef, undef, undef, undef, undef, undef, undef, undef], defers := [] } ∧ W4.heap.size ≤ X ∧ W4.heap.size ≤ Y ∧ Blk W X #[.int .u32 x.r.oid, .int .u32 x.r.ver] 33 ∧ Blk W Y #[.int .u32 x.r.oid, .int .u32 x.r.ver, .string x.r.nm, .int .u8 x.r.id, .slice x.a x.r.cols.length x.c] 36 ∧ x.in W ∧ x.r.cols.length ≤ 1000)
    ?hAx ?assign ?body ?done
  case hI =>
    rintro s A B row ⟨⟨a', c', qs, q1, q2⟩, q3, q4, q5⟩ hg hr
    have hr2 : ∀ r, row = some r → ∃ o : Obj, A.heap[r]? = some o ∧ o.isCells = false := fun r e => (hr r e).2
    have hk : ∀ {b : Nat} {cs : Array Value} {t : TypeId}, Blk A b cs t → Blk B b cs t := fun {b cs t} hb => hb.kp (Kp.of_grown hg) (fun e => by
      obtain ⟨ob, ho, hn⟩ := hr2 b e
      rw [show A.heap[b]? = _ from hb] at ho; cases ho; simp [Obj.isCells] at hn)
    exact ⟨⟨a', c', qs, hk q1, Hid.mk' (q2.out.kept hg hr2)⟩, hk q3, hk q4, Hid.mk' ⟨q5.out.1.grown hg (by have := q5.out.2; omega) (fun k e => by have := (hr k e).1; omega), Nat.le_trans q5.out.2 hg.size⟩⟩
  case hAx =>
    rintro x a' W l o' ⟨X, Y, q1, q2, q3, q4, q5, q6, q7⟩ hl ⟨ob, hob, hnc⟩
    have hg := grownBy_putObj' W l o'
    have hk : ∀ {b : Nat} {cs : Array Value} {t : TypeId}, Blk W b cs t → Blk (W.putObj l o') b cs t := fun {b cs t} hb => hb.kp (Kp.of_grown hg) (fun e => by
      injection e with e
      subst e
      rw [show W.heap[l]? = _ from hb] at hob; cases hob; simp [Obj.isCells] at hnc)
    refine ⟨X, Y, q1, q2, q3, hk q4, hk q5, Sl.kp q6 (Kp.of_grown hg) (fun h0 b o e e2 => ?_), q7⟩
    injection e2 with e2
    subst e2
    obtain ⟨b', o2, e3, hb3, hc3⟩ := Sl.at_ q6 (i := 0) (List.length_pos_iff.2 h0)
    rw [e] at e3; cases e3
    have h5 := hc3 0 (by omega)
    unfold World.cell? at h5
    rw [show W.heap[l]? = some ob from hob] at h5
    cases hxx : x.r.cols with
    | nil => rw [hxx] at h0; exact h0 rfl
    | cons d ds =>
      rw [hxx] at h5
      cases ob <;> simp [Obj.isCells, Col.cells] at hnc h5
  case assign =>
    rintro l pre x W K ⟨⟨a', c', qs, q1, q2⟩, q3, q4, q5⟩ ⟨hx1, hx2⟩ hK
    have hzW := q5.out.2
    unfold encA
    rw [fold_two]
    gi_wp2
    have hEW : Ext W ((W.alloc (.cells #[.int .u32 x.r.oid, .int .u32 x.r.ver] 33)).alloc (.cells #[.int .u32 x.r.oid, .int .u32 x.r.ver, .string x.r.nm, .int .u8 x.r.id, .slice x.a x.r.cols.length x.c] 36)) := by (repeat (with_reducible (first | exact Ext.refl _ | assumption | exact held_left (by assumption) | apply Ext.drewN | apply Ext.drew | apply Ext.alloc | (refine Ext.setCell ?_ (by first | (simp; done) | (simp; omega) | omega) _) | (refine Ext.trans ?_ (by assumption)) | (refine Ext.trans ?_ (held_left (by assumption))))))
    exact hK _ _ (((KeepsOthers.alloc _ _).trans (KeepsOthers.alloc _ _)).from _) (hEW.mono (by omega)) ⟨⟨a', c', qs, q1.ext hEW, Hid.mk' (q2.out.ext hEW)⟩, q3.ext hEW, q4.ext hEW, Hid.mk' ⟨q5.out.1.trans (hEW.mono (by omega)), by simp; omega⟩⟩
      ⟨W.heap.size, W.heap.size + 1, rfl, hzW, by omega, (Blk.new _ _ _).alloc _, Blk.new' _ _ (by simp), hx1.ext hEW, hx2⟩
  case body =>
    rintro l pre x a' W ⟨⟨av, cv, qs, q1, q2⟩, q3, q4, q5⟩ hlen ⟨X, Y, rfl, hX, hY, hbX, hbY, hxi, hxn⟩
    have h11 : 1 ≤ n - 1 - 1 := by omega
    obtain ⟨⟨oid, ver, nm, id, cols⟩, a2, c2⟩ := x
    simp only at hbX hbY hxn ⊢
    have HX := Hid.mk' (fun m W' (h : Ext W W') => HB8.out m (⟨⟨oid, ver, nm, id, cols⟩, a2, c2⟩ : RR) W' (hxi.ext h) hxn)
    unfold RR.agg at HX
    have HQ1 := Hid.mk' q1
    have HQ3 := Hid.mk' q3
    have HQ4 := Hid.mk' q4
    have g1 := q1.cell
    have g1f := q1.frozen
    have g1z := q1.lt
    have gX := hbX.cell
    have gXz := hbX.lt
    have gY := hbY.cell
    have gYz := hbY.lt
    have hbYk := hbY
    clear hxi hbX hbY q1 q3 q4
    have hql : qs.length ≤ 64 := by
      have h1 := congrArg List.length q2.out.r
      have h2 := HC.out.n64
      simp only [List.length_map] at h1
      omega
    have hNB : Hid (∀ b, (Value.slice av qs.length cv).ownBlock = some b → w.heap.size + 1 + 1 + 1 ≤ b ∧ b < W.heap.size) := Hid.mk' (fun b hb => q2.out.own.lt b hb)
    have hz5 := q5.out.2
    clear hlen
    gi_wp2
    have HbY := Hid.mk' hbYk
    have HFIN : Hid (∀ (w5 w6 : World) a' c' a6 c6, Ext W w5 → RR.rowned W.heap.size w5 (⟨⟨oid, ver, nm, id, cols⟩, a', c'⟩ : RR) → w6.ownsRow (w.heap.size + 1 + 1 + 1) 49 5 (.slice a6 (qs.length + 1) c6) (qs.length + 1) ((qs.map RR.cells).flatten ++ RR.cells (⟨⟨oid, ver, nm, id, cols⟩, a', c'⟩ : RR)) →
        (w5.alloc (.cells #[.int .u32 oid, .int .u32 ver, .string nm, .int .u8 id, .slice a' cols.length c'] 49)).grownBy w6 (Value.slice av qs.length cv).ownBlock → ((Value.slice a6 (qs.length + 1) c6).ownBlock = (Value.slice av qs.length cv).ownBlock ∨ (Value.slice a6 (qs.length + 1) c6).ownBlock = some (w5.alloc (.cells #[.int .u32 oid, .int .u32 ver, .string nm, .int .u8 id, .slice a' cols.length c'] 49)).heap.size) → Blk w6 (w.heap.size + 1 + 1) #[.slice av qs.length cv] 22 →
        KeepsFrom W4.heap.size W (w6.setCell ⟨w.heap.size + 1 + 1, 0, none⟩ (.slice a6 (qs.length + 1) c6)) ∧ Below w.heap.size W (w6.setCell ⟨w.heap.size + 1 + 1, 0, none⟩ (.slice a6 (qs.length + 1) c6)) ∧
        (∃ a' c' qs', Blk (w6.setCell ⟨w.heap.size + 1 + 1, 0, none⟩ (.slice a6 (qs.length + 1) c6)) (w.heap.size + 1 + 1) #[.slice a' qs'.length c'] 22 ∧ Hid (BkR (w6.setCell ⟨w.heap.size + 1 + 1, 0, none⟩ (.slice a6 (qs.length + 1) c6)) (w.heap.size + 1 + 1 + 1) ((pre ++ [(⟨⟨oid, ver, nm, id, cols⟩, a2, c2⟩ : RR)]).map RR.r) (.slice a' qs'.length c') qs')) ∧ Blk (w6.setCell ⟨w.heap.size + 1 + 1, 0, none⟩ (.slice a6 (qs.length + 1) c6)) w.heap.size #[.slice none 0 0] 22 ∧ Blk (w6.setCell ⟨w.heap.size + 1 + 1, 0, none⟩ (.slice a6 (qs.length + 1) c6)) (w.heap.size + 1) #[.bool false] 4 ∧ Hid (Below w.heap.size w (w6.setCell ⟨w.heap.size + 1 + 1, 0, none⟩ (.slice a6 (qs.length + 1) c6)) ∧ W4.heap.size ≤ (w6.setCell ⟨w.heap.size + 1 + 1, 0, none⟩ (.slice a6 (qs.length + 1) c6)).heap.size)) := Hid.mk' (fun w5 w6 a' c' a6 c6 hx5 hqo ho6 hg6 hat6 hb6 => by
      have hEa := hx5.alloc (.cells #[.int .u32 oid, .int .u32 ver, .string nm, .int .u8 id, .slice a' cols.length c'] 49)
      have hk1 : Kp (fun k => (Value.slice av qs.length cv).ownBlock = some k) W w6 := (Kp.of_ext hEa).trans (Kp.of_grown hg6) (fun x hx _ => hx)
      have hk2 : Kp (fun k => (Value.slice av qs.length cv).ownBlock = some k ∨ k = w.heap.size + 1 + 1) W (w6.setCell ⟨w.heap.size + 1 + 1, 0, none⟩ (.slice a6 (qs.length + 1) c6)) :=
        (hk1.mono (T := fun k => (Value.slice av qs.length cv).ownBlock = some k ∨ k = w.heap.size + 1 + 1) (fun x hx _ => .inl hx)).trans (Kp.set (S := fun k => k = w.heap.size + 1 + 1) _ _ rfl) (fun x hx _ => .inr hx)
      have hpush := (q2.out.ext hEa).push (q := ⟨⟨oid, ver, nm, id, cols⟩, a', c'⟩) ((RR.rowned.ext hqo ((Ext.refl w5).alloc _)).mono (by omega)) (fun b o e h4 => by
        have h5 := (hNB.out b h4).2
        have h6 := (RR.rowned.at_ hqo e).1
        omega) hg6 hat6 ho6
      refine ⟨⟨hk2.size, fun k ob hk hob hnc => (hk2.block k (Array.getElem?_eq_some_iff.1 hob).1 (fun hs => ?_)).trans hob⟩, ⟨hk2.os, hk2.tape, hk2.output, hk2.size, fun k hk => hk2.block k (by omega) (fun hs => ?_)⟩, ⟨a6, c6, qs ++ [⟨⟨oid, ver, nm, id, cols⟩, a', c'⟩], ?_, Hid.mk' ?_⟩, ?_, ?_, Hid.mk' ⟨?_, Nat.le_trans hz5 hk2.size⟩⟩
      · rcases hs with hs | hs
        · rcases q2.out.own.2 with ⟨hv, -⟩ | ⟨gg, cap, cur, hv, -, hh, -⟩
          · rw [hv] at hs; cases hs
          · rw [hv] at hs
            have : gg = k := by simpa [Value.ownBlock] using hs
            subst this
            rw [hh] at hob; cases hob; simp [Obj.isCells] at hnc
        · omega
      · rcases hs with hs | hs
        · have := (hNB.out k hs).1; omega
        · omega
      · have := hb6.set 0 (.slice a6 (qs.length + 1) c6)
        simpa using this
      · have := hpush.set (p := ⟨w.heap.size + 1 + 1, 0, none⟩) (by show w.heap.size + 1 + 1 < _; omega) (.slice a6 (qs.length + 1) c6)
        simpa using this
      · exact HQ3.out.kp hk2 (fun hs => by rcases hs with hs | hs; · (have := (hNB.out _ hs).1; omega)
                                           · omega)
      · exact HQ4.out.kp hk2 (fun hs => by rcases hs with hs | hs; · (have := (hNB.out _ hs).1; omega)
                                           · omega)
      · exact Kp.ext q5.out.1 (fun x hs hx => by rcases hs with hs | hs; · (have := (hNB.out _ hs).1; omega)
                                                 · omega) hk2)
    refine wpIn_region_any mixed ?_
    change wpAnyIn _ _ _ _ _ _ _ _ _ (World.drew _)
    refine wpAnyIn_ready (rs := [0, 1]) (by kernel_rfl) (by simp) ?_
    refine AllReadyIn.cons rfl (fun K hK => ?_) ?_
    · skip
      (go_simp; refine hK _ _ ?_; clear hK K)
      refine wpAnyIn_ready (rs := [1]) (by kernel_rfl) (by simp) ?_
      refine AllReadyIn.cons rfl (fun K hK => ?_) ?_
      · skip
        (go_simp; refine hK _ _ ?_; clear hK K)
        refine wpAnyIn_ready (rs := [2]) (by kernel_rfl) (by simp) ?_
        refine AllReadyIn.cons rfl (fun K hK => ?_) ?_
        · skip
          (go_simp; gi_wp2_with (gi_at_call 23; refine (CallsIn.inRound l (HX.out _ _ (by (repeat (with_reducible (first | exact Ext.refl _ | assumption | exact held_left (by assumption) | apply Ext.drewN | apply Ext.drew | apply Ext.alloc | (refine Ext.setCell ?_ (by first | (simp; done) | (simp; omega) | omega) _) | (refine Ext.trans ?_ (by assumption)) | (refine Ext.trans ?_ (held_left (by assumption))))))))).mono ?_; rintro e w5 ⟨⟨r', a', c'⟩, rfl, hqr, hqo, hb5⟩; simp only at hqr; subst hqr; have HX5 := Hid.mk' (show Ext W w5 by (repeat (with_reducible (first | exact Ext.refl _ | assumption | exact held_left (by assumption) | apply Ext.drewN | apply Ext.drew | apply Ext.alloc | (refine Ext.setCell ?_ (by first | (simp; done) | (simp; omega) | omega) _) | (refine Ext.trans ?_ (by assumption)) | (refine Ext.trans ?_ (held_left (by assumption))))))); have HQO := Hid.mk' hqo; have g5 := (HQ1.out.ext HX5.out).cell; have z5 := (HQ1.out.ext HX5.out).lt; have gY5 := (HbY.out.ext HX5.out).cell; have zY5 := (HbY.out.ext HX5.out).lt; clear hqo hb5; try simp only))
          refine wpAnyIn_ready (rs := [3]) (by kernel_rfl) (by simp) ?_
          refine AllReadyIn.cons rfl (fun K hK => ?_) ?_
          · skip
            (go_simp; refine hK _ _ ?_; clear hK K)
            refine wpAnyIn_ready (rs := [4]) (by kernel_rfl) (by simp) ?_
            refine AllReadyIn.cons rfl (fun K hK => ?_) ?_
            · skip
              obtain ⟨v6, w6, hr6, ho6, hg6, -, hat6⟩ := run_append_own_at (P := Try.prog) (w5.alloc (.cells #[.int .u32 oid, .int .u32 ver, .string nm, .int .u8 id, .slice a' cols.length c'] 49)) (w.heap.size + 1 + 1 + 1) 22 22 49 i0 _ 5 56 Try.underlying22 hi hz0 hz1 hz2 rfl (by decide) (.slice av qs.length cv) qs.length _ (owns_ext q2.out.own (HX5.out.alloc _)) ⟨w5.heap.size, 0, none⟩ 1 1 (RR.cells ⟨⟨oid, ver, nm, id, cols⟩, a', c'⟩) rfl (cells_new _ #[.int .u32 oid, .int .u32 ver, .string nm, .int .u8 id, .slice a' cols.length c'] _) (by intro u hu; simp [RR.cells] at hu; rcases hu with rfl | rfl | rfl | rfl | rfl <;> rfl) (by unfold maxLen; omega) (by omega) (by have := HX5.out.size; simp; omega)
              obtain ⟨a6, c6, rfl⟩ := owns_shape ho6
              have HO6 := Hid.mk' ho6
              have HG6 := Hid.mk' hg6
              have HAT6 := Hid.mk' hat6
              have hb6 : Blk w6 (w.heap.size + 1 + 1) #[.slice av qs.length cv] 22 := (hg6.block _ (by have := HX5.out.size; simp; omega) (fun e => by have := (hNB.out _ e.symm).1; omega)).trans ((HQ1.out.ext HX5.out).alloc _)
              have HB6 := Hid.mk' hb6
              have g6 := hb6.cell
              have g6f := hb6.frozen
              have g6z := hb6.lt
              clear ho6 hg6 hat6 hb6
              (refine stepIn_append rfl _ _ 22 rfl (.slice av qs.length cv) (.slice (some ⟨w5.heap.size, 0, none⟩) 1 1) (by simp [Act.eval]) (by simp [Act.eval]) hr6 ?_; refine hK _ _ ?_; clear hK K)
              refine wpAnyIn_ready (rs := [5]) (by kernel_rfl) (by simp) ?_
              refine AllReadyIn.cons rfl (fun K hK => ?_) ?_
              · skip
                (go_simp; refine hK _ _ ?_; clear hK K)
                refine wpAnyIn_done (by kernel_rfl) ?_ _
                gi_wp2
                exact HFIN.out w5 w6 a' c' a6 c6 HX5.out HQO.out HO6.out HG6.out HAT6.out HB6.out
              exact AllReadyIn.nil
            exact AllReadyIn.nil
          exact AllReadyIn.nil
        exact AllReadyIn.nil
      exact AllReadyIn.nil
    refine AllReadyIn.cons rfl (fun K hK => ?_) ?_
    · skip
      (go_simp; refine hK _ _ ?_; clear hK K)
      refine wpAnyIn_ready (rs := [0, 2]) (by kernel_rfl) (by simp) ?_
      refine AllReadyIn.cons rfl (fun K hK => ?_) ?_
      · skip
        (go_simp; refine hK _ _ ?_; clear hK K)
        refine wpAnyIn_ready (rs := [2]) (by kernel_rfl) (by simp) ?_
        refine AllReadyIn.cons rfl (fun K hK => ?_) ?_
        · skip
          (go_simp; gi_wp2_with (gi_at_call 23; refine (CallsIn.inRound l (HX.out _ _ (by (repeat (with_reducible (first | exact Ext.refl _ | assumption | exact held_left (by assumption) | apply Ext.drewN | apply Ext.drew | apply Ext.alloc | (refine Ext.setCell ?_ (by first | (simp; done) | (simp; omega) | omega) _) | (refine Ext.trans ?_ (by assumption)) | (refine Ext.trans ?_ (held_left (by assumption))))))))).mono ?_; rintro e w5 ⟨⟨r', a', c'⟩, rfl, hqr, hqo, hb5⟩; simp only at hqr; subst hqr; have HX5 := Hid.mk' (show Ext W w5 by (repeat (with_reducible (first | exact Ext.refl _ | assumption | exact held_left (by assumption) | apply Ext.drewN | apply Ext.drew | apply Ext.alloc | (refine Ext.setCell ?_ (by first | (simp; done) | (simp; omega) | omega) _) | (refine Ext.trans ?_ (by assumption)) | (refine Ext.trans ?_ (held_left (by assumption))))))); have HQO := Hid.mk' hqo; have g5 := (HQ1.out.ext HX5.out).cell; have z5 := (HQ1.out.ext HX5.out).lt; have gY5 := (HbY.out.ext HX5.out).cell; have zY5 := (HbY.out.ext HX5.out).lt; clear hqo hb5; try simp only))
          refine wpAnyIn_ready (rs := [3]) (by kernel_rfl) (by simp) ?_
          refine AllReadyIn.cons rfl (fun K hK => ?_) ?_
          · skip
            (go_simp; refine hK _ _ ?_; clear hK K)
            refine wpAnyIn_ready (rs := [4]) (by kernel_rfl) (by simp) ?_
            refine AllReadyIn.cons rfl (fun K hK => ?_) ?_
            · skip
              obtain ⟨v6, w6, hr6, ho6, hg6, -, hat6⟩ := run_append_own_at (P := Try.prog) (w5.alloc (.cells #[.int .u32 oid, .int .u32 ver, .string nm, .int .u8 id, .slice a' cols.length c'] 49)) (w.heap.size + 1 + 1 + 1) 22 22 49 i0 _ 5 56 Try.underlying22 hi hz0 hz1 hz2 rfl (by decide) (.slice av qs.length cv) qs.length _ (owns_ext q2.out.own (HX5.out.alloc _)) ⟨w5.heap.size, 0, none⟩ 1 1 (RR.cells ⟨⟨oid, ver, nm, id, cols⟩, a', c'⟩) rfl (cells_new _ #[.int .u32 oid, .int .u32 ver, .string nm, .int .u8 id, .slice a' cols.length c'] _) (by intro u hu; simp [RR.cells] at hu; rcases hu with rfl | rfl | rfl | rfl | rfl <;> rfl) (by unfold maxLen; omega) (by omega) (by have := HX5.out.size; simp; omega)
              obtain ⟨a6, c6, rfl⟩ := owns_shape ho6
              have HO6 := Hid.mk' ho6
              have HG6 := Hid.mk' hg6
              have HAT6 := Hid.mk' hat6
              have hb6 : Blk w6 (w.heap.size + 1 + 1) #[.slice av qs.length cv] 22 := (hg6.block _ (by have := HX5.out.size; simp; omega) (fun e => by have := (hNB.out _ e.symm).1; omega)).trans ((HQ1.out.ext HX5.out).alloc _)
              have HB6 := Hid.mk' hb6
              have g6 := hb6.cell
              have g6f := hb6.frozen
              have g6z := hb6.lt
              clear ho6 hg6 hat6 hb6
              (refine stepIn_append rfl _ _ 22 rfl (.slice av qs.length cv) (.slice (some ⟨w5.heap.size, 0, none⟩) 1 1) (by simp [Act.eval]) (by simp [Act.eval]) hr6 ?_; refine hK _ _ ?_; clear hK K)
              refine wpAnyIn_ready (rs := [5]) (by kernel_rfl) (by simp) ?_
              refine AllReadyIn.cons rfl (fun K hK => ?_) ?_
              · skip
                (go_simp; refine hK _ _ ?_; clear hK K)
                refine wpAnyIn_done (by kernel_rfl) ?_ _
                gi_wp2
                exact HFIN.out w5 w6 a' c' a6 c6 HX5.out HQO.out HO6.out HG6.out HAT6.out HB6.out
              exact AllReadyIn.nil
            exact AllReadyIn.nil
          exact AllReadyIn.nil
        exact AllReadyIn.nil
      refine AllReadyIn.cons rfl (fun K hK => ?_) ?_
      · skip
        (go_simp; gi_wp2_with (gi_at_call 23; refine (CallsIn.inRound l (HX.out _ _ (by (repeat (with_reducible (first | exact Ext.refl _ | assumption | exact held_left (by assumption) | apply Ext.drewN | apply Ext.drew | apply Ext.alloc | (refine Ext.setCell ?_ (by first | (simp; done) | (simp; omega) | omega) _) | (refine Ext.trans ?_ (by assumption)) | (refine Ext.trans ?_ (held_left (by assumption))))))))).mono ?_; rintro e w5 ⟨⟨r', a', c'⟩, rfl, hqr, hqo, hb5⟩; simp only at hqr; subst hqr; have HX5 := Hid.mk' (show Ext W w5 by (repeat (with_reducible (first | exact Ext.refl _ | assumption | exact held_left (by assumption) | apply Ext.drewN | apply Ext.drew | apply Ext.alloc | (refine Ext.setCell ?_ (by first | (simp; done) | (simp; omega) | omega) _) | (refine Ext.trans ?_ (by assumption)) | (refine Ext.trans ?_ (held_left (by assumption))))))); have HQO := Hid.mk' hqo; have g5 := (HQ1.out.ext HX5.out).cell; have z5 := (HQ1.out.ext HX5.out).lt; have gY5 := (HbY.out.ext HX5.out).cell; have zY5 := (HbY.out.ext HX5.out).lt; clear hqo hb5; try simp only))
        refine wpAnyIn_ready (rs := [0, 3]) (by kernel_rfl) (by simp) ?_
        refine AllReadyIn.cons rfl (fun K hK => ?_) ?_
        · skip
          (go_simp; refine hK _ _ ?_; clear hK K)
          refine wpAnyIn_ready (rs := [3]) (by kernel_rfl) (by simp) ?_
          refine AllReadyIn.cons rfl (fun K hK => ?_) ?_
          · skip
            (go_simp; refine hK _ _ ?_; clear hK K)
            refine wpAnyIn_ready (rs := [4]) (by kernel_rfl) (by simp) ?_
            refine AllReadyIn.cons rfl (fun K hK => ?_) ?_
            · skip
              obtain ⟨v6, w6, hr6, ho6, hg6, -, hat6⟩ := run_append_own_at (P := Try.prog) (w5.alloc (.cells #[.int .u32 oid, .int .u32 ver, .string nm, .int .u8 id, .slice a' cols.length c'] 49)) (w.heap.size + 1 + 1 + 1) 22 22 49 i0 _ 5 56 Try.underlying22 hi hz0 hz1 hz2 rfl (by decide) (.slice av qs.length cv) qs.length _ (owns_ext q2.out.own (HX5.out.alloc _)) ⟨w5.heap.size, 0, none⟩ 1 1 (RR.cells ⟨⟨oid, ver, nm, id, cols⟩, a', c'⟩) rfl (cells_new _ #[.int .u32 oid, .int .u32 ver, .string nm, .int .u8 id, .slice a' cols.length c'] _) (by intro u hu; simp [RR.cells] at hu; rcases hu with rfl | rfl | rfl | rfl | rfl <;> rfl) (by unfold maxLen; omega) (by omega) (by have := HX5.out.size; simp; omega)
              obtain ⟨a6, c6, rfl⟩ := owns_shape ho6
              have HO6 := Hid.mk' ho6
              have HG6 := Hid.mk' hg6
              have HAT6 := Hid.mk' hat6
              have hb6 : Blk w6 (w.heap.size + 1 + 1) #[.slice av qs.length cv] 22 := (hg6.block _ (by have := HX5.out.size; simp; omega) (fun e => by have := (hNB.out _ e.symm).1; omega)).trans ((HQ1.out.ext HX5.out).alloc _)
              have HB6 := Hid.mk' hb6
              have g6 := hb6.cell
              have g6f := hb6.frozen
              have g6z := hb6.lt
              clear ho6 hg6 hat6 hb6
              (refine stepIn_append rfl _ _ 22 rfl (.slice av qs.length cv) (.slice (some ⟨w5.heap.size, 0, none⟩) 1 1) (by simp [Act.eval]) (by simp [Act.eval]) hr6 ?_; refine hK _ _ ?_; clear hK K)
              refine wpAnyIn_ready (rs := [5]) (by kernel_rfl) (by simp) ?_
              refine AllReadyIn.cons rfl (fun K hK => ?_) ?_
              · skip
                (go_simp; refine hK _ _ ?_; clear hK K)
                refine wpAnyIn_done (by kernel_rfl) ?_ _
                gi_wp2
                exact HFIN.out w5 w6 a' c' a6 c6 HX5.out HQO.out HO6.out HG6.out HAT6.out HB6.out
              exact AllReadyIn.nil
            exact AllReadyIn.nil
          exact AllReadyIn.nil
        refine AllReadyIn.cons rfl (fun K hK => ?_) ?_
        · skip
          (go_simp; refine hK _ _ ?_; clear hK K)
          refine wpAnyIn_ready (rs := [0]) (by kernel_rfl) (by simp) ?_
          refine AllReadyIn.cons rfl (fun K hK => ?_) ?_
          · skip
            (go_simp; refine hK _ _ ?_; clear hK K)
            refine wpAnyIn_ready (rs := [4]) (by kernel_rfl) (by simp) ?_
            refine AllReadyIn.cons rfl (fun K hK => ?_) ?_
            · skip
              obtain ⟨v6, w6, hr6, ho6, hg6, -, hat6⟩ := run_append_own_at (P := Try.prog) (w5.alloc (.cells #[.int .u32 oid, .int .u32 ver, .string nm, .int .u8 id, .slice a' cols.length c'] 49)) (w.heap.size + 1 + 1 + 1) 22 22 49 i0 _ 5 56 Try.underlying22 hi hz0 hz1 hz2 rfl (by decide) (.slice av qs.length cv) qs.length _ (owns_ext q2.out.own (HX5.out.alloc _)) ⟨w5.heap.size, 0, none⟩ 1 1 (RR.cells ⟨⟨oid, ver, nm, id, cols⟩, a', c'⟩) rfl (cells_new _ #[.int .u32 oid, .int .u32 ver, .string nm, .int .u8 id, .slice a' cols.length c'] _) (by intro u hu; simp [RR.cells] at hu; rcases hu with rfl | rfl | rfl | rfl | rfl <;> rfl) (by unfold maxLen; omega) (by omega) (by have := HX5.out.size; simp; omega)
              obtain ⟨a6, c6, rfl⟩ := owns_shape ho6
              have HO6 := Hid.mk' ho6
              have HG6 := Hid.mk' hg6
              have HAT6 := Hid.mk' hat6
              have hb6 : Blk w6 (w.heap.size + 1 + 1) #[.slice av qs.length cv] 22 := (hg6.block _ (by have := HX5.out.size; simp; omega) (fun e => by have := (hNB.out _ e.symm).1; omega)).trans ((HQ1.out.ext HX5.out).alloc _)
              have HB6 := Hid.mk' hb6
              have g6 := hb6.cell
              have g6f := hb6.frozen
              have g6z := hb6.lt
              clear ho6 hg6 hat6 hb6
              (refine stepIn_append rfl _ _ 22 rfl (.slice av qs.length cv) (.slice (some ⟨w5.heap.size, 0, none⟩) 1 1) (by simp [Act.eval]) (by simp [Act.eval]) hr6 ?_; refine hK _ _ ?_; clear hK K)
              refine wpAnyIn_ready (rs := [5]) (by kernel_rfl) (by simp) ?_
              refine AllReadyIn.cons rfl (fun K hK => ?_) ?_
              · skip
                (go_simp; refine hK _ _ ?_; clear hK K)
                refine wpAnyIn_done (by kernel_rfl) ?_ _
                gi_wp2
                exact HFIN.out w5 w6 a' c' a6 c6 HX5.out HQO.out HO6.out HG6.out HAT6.out HB6.out
              exact AllReadyIn.nil
            exact AllReadyIn.nil
          exact AllReadyIn.nil
        exact AllReadyIn.nil
      exact AllReadyIn.nil
    exact AllReadyIn.nil
  case done =>
    rintro D ys W hD hys ⟨⟨av, cv, qs, q1, q2⟩, q3, q4, q5⟩ hK
    have g1 := q1.cell
    have g1z := q1.lt
    have g3 := q3.cell
    have g3f := q3.frozen
    have g3z := q3.lt
    have g4 := q4.cell
    have g4f := q4.frozen
    have g4z := q4.lt
    gi_wp2
    have hK' := ((KeepsOthers.setCell W ⟨w.heap.size, 0, none⟩ (.slice av qs.length cv)).trans (KeepsOthers.setCell _ ⟨w.heap.size + 1, 0, none⟩ (.bool true))).same D _ hK rfl
    have hEx := (q5.out.1.setCell (p := ⟨w.heap.size, 0, none⟩) (Nat.le_refl _) (.slice av qs.length cv)).setCell (p := ⟨w.heap.size + 1, 0, none⟩) (by show w.heap.size ≤ w.heap.size + 1; omega) (.bool true)
    have hq1 := (q3.set 0 (.slice av qs.length cv)).other ⟨w.heap.size + 1, 0, none⟩ (.bool true) (by show w.heap.size ≠ w.heap.size + 1; omega)
    have hq2 := (q4.other ⟨w.heap.size, 0, none⟩ (.slice av qs.length cv) (by show w.heap.size + 1 ≠ w.heap.size; omega)).set 0 (.bool true)
    have hbk := (q2.out.set (p := ⟨w.heap.size, 0, none⟩) (by show w.heap.size < _; omega) (.slice av qs.length cv)).set (p := ⟨w.heap.size + 1, 0, none⟩) (by show w.heap.size + 1 < _; omega) (.bool true)
    obtain ⟨V, hV⟩ : ∃ V, V = (W.setCell ⟨w.heap.size, 0, none⟩ (.slice av qs.length cv)).setCell ⟨w.heap.size + 1, 0, none⟩ (.bool true) := ⟨_, rfl⟩
    rw [← hV] at hq1 hq2 hK' hEx hbk ⊢
    have hg' := grownBy_putObj' V D (.deferred none)
    have hr' : ∀ r, some D = some r → ∃ ob : Obj, V.heap[r]? = some ob ∧ ob.isCells = false := fun r e => by cases e; exact ⟨_, hK', rfl⟩
    have hc0 := cell_kept (hq1.cell 0) hg' hr'
    have hc1 := cell_kept (hq2.cell 0) hg' hr'
    have hbk2 := hbk.kept hg' hr'
    refine ⟨by simp, .inl ⟨_, _, rfl, run_takeDeferred hK', ?_⟩⟩
    refine ⟨.tuple #[.slice av qs.length cv, .bool true], ?_, ⟨av, cv, qs, rfl, ⟨owns_base hbk2.own (by omega), by rw [hbk2.r, hys], fun q hq => (hbk2.sl q hq).mono (by omega), hbk2.ne⟩, hEx.trans (belowK_b (w := w) (Nat.le_refl _) V D _ _ (by omega) hK' rfl rfl)⟩⟩
    simp [results, Try.f16, go_sem, hc0, hc1]

theorem back9_any (N g : Nat) (c : Value) (ps : List RR) (w : World) (hc : Ca w N g c ps) :
    Calls Try.prog 16 #[.pointer (some ⟨g, 0, none⟩)] w fun e w' => ∃ a' c' qs, e = .returned (.tuple #[.slice a' qs.length c', .bool true]) ∧ BkR w' w.heap.size (ps.map RR.r) (.slice a' qs.length c') qs ∧ Ext w w' :=
  callsIn_wide.1 (back9_in Fence.wide 4 rfl trivial trivial trivial trivial trivial rfl (Nat.le_refl _) N g c ps w hc)

end Go.Proofs.Ythdjinicmnhgpaa

/-
The awake of the laws of catalogs.
-/
namespace Go.Proofs.Ythdjinicmnhgpaa
open Go.RowKit

def aw9 (v : Int) : Rl := ⟨3, v, ⟨#[116]⟩, 0, [⟨⟨#[97]⟩, 1, false⟩]⟩
theorem aw9_r1 : (aw9 1).right = 0 := by decide
theorem aw9_r2 : (aw9 2).right = 0 := by decide
theorem aw9_up : ofUp [aw9 2, aw9 1] 2 = [aw9 1, aw9 2] := by rfl
theorem aw9_ofE : ofE [aw9 2, aw9 1] = 0 := by decide
theorem aw9_ofPl : ofPl [aw9 2, aw9 1] = 2 := by decide

theorem aw9_wb (v : Int) : (aw9 v).wb := ⟨by show 1 ≤ 9223372036854775807; omega, by intro c hc; simp [aw9] at hc; subst hc; show 1 ≤ 9223372036854775807; omega, by show 1 ≤ 5864062014634; omega, Int.le_refl 0⟩
theorem two_of {qs : List RR} {a b : Rl} (h : qs.map RR.r = [a, b]) : ∃ x y, qs = [x, y] ∧ x.r = a ∧ y.r = b := by
  match qs, h with
  | [x, y], h =>
    simp only [List.map_cons, List.map_nil, List.cons.injEq, and_true] at h
    exact ⟨x, y, rfl, h.1, h.2⟩

set_option maxRecDepth 100000 in set_option maxHeartbeats 1600000 in
theorem awake9_any (w : World) : Calls Try.prog 18 #[] w fun e w' => e = .returned (.bool true) ∧ Ext w w' := by
  have HCI : Hid (∀ W, Ext (((w.alloc (.cells #[.string ⟨#[97]⟩, .int .u8 1, .bool false] 40)).alloc (.cells #[.int .u32 3, .int .u32 1, .string ⟨#[116]⟩, .int .u8 0, .slice (some ⟨w.heap.size, 0, none⟩) 1 1] 36)).alloc (.cells #[.int .u32 3, .int .u32 2, .string ⟨#[116]⟩, .int .u8 0, .slice (some ⟨w.heap.size, 0, none⟩) 1 1] 36)) W → ∀ v : Int, RR.in W ⟨aw9 v, some ⟨w.heap.size, 0, none⟩, 1⟩) := Hid.mk' (fun W h v => ((Sl.new w #[.string ⟨#[97]⟩, .int .u8 1, .bool false] 40 3 1 1 [[.string ⟨#[97]⟩, .int .u8 1, .bool false]] rfl (by intro xs hxs; simp at hxs; subst hxs; rfl) rfl).ext (((Ext.refl _).alloc _).alloc _)).ext h)
  have HOF := Hid.mk' (fun (W : World) (h : Ext (((w.alloc (.cells #[.string ⟨#[97]⟩, .int .u8 1, .bool false] 40)).alloc (.cells #[.int .u32 3, .int .u32 1, .string ⟨#[116]⟩, .int .u8 0, .slice (some ⟨w.heap.size, 0, none⟩) 1 1] 36)).alloc (.cells #[.int .u32 3, .int .u32 2, .string ⟨#[116]⟩, .int .u8 0, .slice (some ⟨w.heap.size, 0, none⟩) 1 1] 36)) W) => cof_any [⟨aw9 2, some ⟨w.heap.size, 0, none⟩, 1⟩, ⟨aw9 1, some ⟨w.heap.size, 0, none⟩, 1⟩] (some ⟨W.heap.size, 0, none⟩) 2 (W.alloc (.cells #[.int .u32 3, .int .u32 2, .string ⟨#[116]⟩, .int .u8 0, .slice (some ⟨w.heap.size, 0, none⟩) 1 1, .int .u32 3, .int .u32 1, .string ⟨#[116]⟩, .int .u8 0, .slice (some ⟨w.heap.size, 0, none⟩) 1 1] 36))
    ⟨Sl.new W #[.int .u32 3, .int .u32 2, .string ⟨#[116]⟩, .int .u8 0, .slice (some ⟨w.heap.size, 0, none⟩) 1 1, .int .u32 3, .int .u32 1, .string ⟨#[116]⟩, .int .u8 0, .slice (some ⟨w.heap.size, 0, none⟩) 1 1] 36 5 2 2 _ rfl (RR.len _) rfl, fun p hp => by simp at hp; rcases hp with rfl | rfl <;> exact HCI.out _ (h.alloc _) _⟩
    (fun p hp => by simp at hp; rcases hp with rfl | rfl <;> exact Nat.le_refl _) (fun p hp => by simp at hp; rcases hp with rfl | rfl <;> exact aw9_wb _) (by simp))
  have HOF := Hid.mk' (HOF.out (((w.alloc (.cells #[.string ⟨#[97]⟩, .int .u8 1, .bool false] 40)).alloc (.cells #[.int .u32 3, .int .u32 1, .string ⟨#[116]⟩, .int .u8 0, .slice (some ⟨w.heap.size, 0, none⟩) 1 1] 36)).alloc (.cells #[.int .u32 3, .int .u32 2, .string ⟨#[116]⟩, .int .u8 0, .slice (some ⟨w.heap.size, 0, none⟩) 1 1] 36)) (Ext.refl _))
  unfold COfPost at HOF
  simp only [World.size_alloc, List.map_cons, List.map_nil, List.length_cons, List.length_nil, Nat.zero_add, Nat.reduceAdd, aw9_ofE, aw9_ofPl, aw9_up] at HOF
  go_enter Try.func18, Try.ntmps18
  go_upto_region 7 with (go_at_call 14; refine HOF.out.mono ?_; rintro e w1 ⟨pv, rfl, h1, -, hb1⟩; obtain ⟨rfl, c, qs, hc, hq⟩ := h1 (by first | exact rfl | exact trivial); have HC := Hid.mk' hc; have HQ := Hid.mk' hq; have HB1 := Hid.mk' (show Ext w w1 from (((((Ext.refl w).alloc _).alloc _).alloc _).alloc _).trans hb1); clear h1 hc hq hb1)
  obtain ⟨x, y, rfl, hx, hy⟩ := two_of HQ.out
  have HBK := Hid.mk' (fun W (h : Ext w1 W) => back9_any _ _ c [x, y] W (HC.out.ext h))
  have HLS := Hid.mk' (fun W (h : Ext w1 W) => last_any _ _ c [x, y] 3 W (HC.out.ext h))
  have hl : lastUp 3 [x, y] [x, y].length = some y := by rw [show [x, y].length = 1 + 1 from rfl, lastUp_hit (by simp) (by show y.r.oid = 3; rw [hy]; rfl)]; rfl
  have hxy : [x, y].map RR.r = [aw9 1, aw9 2] := by rw [List.map_cons, List.map_cons, hx, hy]; rfl
  rw [hl] at HLS
  rw [hxy] at HBK
  simp only [Option.isSome_some, Option.getD_some, hy] at HLS
  unfold RR.agg at HLS
  clear hl hxy HQ hx hy
  go_upto_region 9 with (first
    | (go_at_call 16; refine (HBK.out _ (Ext.refl _)).mono ?_; rintro e w2 ⟨a', c', rs, rfl, hbk, hb2⟩; obtain ⟨u, v, rfl, hu, hv⟩ := two_of hbk.r; have HR := Hid.mk' hbk.rl; have HU := Hid.mk' hu; have HB2 := Hid.mk' hb2; clear hbk hb2 hu hv)
    | (go_at_call 28; refine (HLS.out _ HB2.out).mono ?_; rintro e w3 ⟨⟨r', a3, c3⟩, rfl, hqr, -, hb3⟩; simp only at hqr; subst hqr; have HB3 := Hid.mk' hb3; clear hb3; try simp only [aw9]))
  obtain ⟨b, q, rfl, hb, hxx⟩ := HR.out.row.at_ (i := 0) (by simp)
  obtain ⟨f0, f1, f2, f3, f4⟩ := RR.at_ (l := [u, v]) (k := 0) (by simp) hxx hb HB3.out
  have hbw : b < w3.heap.size := Nat.lt_of_lt_of_le hb HB3.out.size
  simp only [List.getElem_cons_zero, HU.out] at f1
  clear f0 f2 f3 f4 hxx
  unfold aw9 at f1
  simp only at f1
  go_wp2
  go_ret
  exact ⟨rfl, HB1.out.trans (HB2.out.trans (HB3.out.trans (by (repeat (with_reducible (first | exact Ext.refl _ | assumption | exact held_left (by assumption) | apply Ext.drewN | apply Ext.drew | apply Ext.alloc | (refine Ext.setCell ?_ (by first | (simp; done) | (simp; omega) | omega) _) | (refine Ext.trans ?_ (by assumption)) | (refine Ext.trans ?_ (held_left (by assumption)))))))))⟩

end Go.Proofs.Ythdjinicmnhgpaa

/-
Equality of two values of the document.
-/
namespace Go.Proofs.Ythdjinicmnhgpaa
open Go.RowKit

theorem toList_inj2 {s t : ByteArray} (h : s.toList = t.toList) : s = t := by
  have := str_beq s t
  rw [h, beq_self_eq_true] at this
  exact of_decide_eq_true this.symm
set_option maxRecDepth 20000 in
theorem eq_val2 (ty n : Int) (x y : Nat) (s : ByteArray) (w : World) :
    (binOp .eql 157 (.agg #[.int .u8 ty, .int .i64 n, .int .u64 x, .int .u64 y, .string s]) (.agg #[.int .u8 ty, .int .i64 n, .int .u64 x, .int .u64 y, .string s])).run Try.prog w = .ok (.bool true) w := by
  simp [go_sem]

theorem toList_inj' {s t : ByteArray} (h : s.toList = t.toList) : s = t := by
  have := str_beq s t
  rw [h, beq_self_eq_true] at this
  exact of_decide_eq_true this.symm
set_option maxRecDepth 20000 in
theorem eq_val (ty n : Int) (x y : Nat) (s : ByteArray) (ty' n' : Int) (x' y' : Nat) (s' : ByteArray) (w : World) :
    (binOp .eql 157 (.agg #[.int .u8 ty, .int .i64 n, .int .u64 x, .int .u64 y, .string s]) (.agg #[.int .u8 ty', .int .i64 n', .int .u64 x', .int .u64 y', .string s'])).run Try.prog w = .ok (.bool (sameB ty n x y s ty' n' x' y' s')) w := by
  by_cases h1 : ty = ty' <;> by_cases h2 : n = n' <;> by_cases h3 : x = x' <;> by_cases h4 : y = y' <;> by_cases h5 : s = s' <;> simp [go_sem, sameB, h1, h2, h3, h4, h5]
  all_goals first
    | (intro h; exact absurd (toList_inj' h) h5)
    | omega
    | (intros; omega)
    | (intros; intro h; exact absurd (toList_inj' h) h5)


end Go.Proofs.Ythdjinicmnhgpaa

/-
Whether two relations are the same, two lists of them: the program's, the reference's.
-/
namespace Go.Proofs.Ythdjinicmnhgpaa
open Go.RowKit

theorem str_beq2 (s t : ByteArray) : (s.toList == t.toList) = decide (s = t) := by
  by_cases h : s = t
  · subst h; simp
  · rw [decide_eq_false h, beq_eq_false_iff_ne]
    exact fun e => h (toList_inj' e)
noncomputable def colB (c d : Col) : Bool := @decide (c = d) (Classical.propDecidable _)
noncomputable def colsB (l m : List Col) : Bool := @decide (l = m) (Classical.propDecidable _)
noncomputable def rlB (a b : Rl) : Bool := @decide (a = b) (Classical.propDecidable _)
noncomputable def rlsB (a b : List Rl) : Bool := @decide (a = b) (Classical.propDecidable _)
theorem colB_true {c d : Col} : colB c d = true ↔ c = d := by unfold colB; simp
theorem colsB_true {l m : List Col} : colsB l m = true ↔ l = m := by unfold colsB; simp
theorem colsB_false {l m : List Col} : colsB l m = false ↔ l ≠ m := by unfold colsB; simp
theorem rlB_true {a b : Rl} : rlB a b = true ↔ a = b := by unfold rlB; simp
theorem rlB_false {a b : Rl} : rlB a b = false ↔ a ≠ b := by unfold rlB; simp
theorem rlsB_true {a b : List Rl} : rlsB a b = true ↔ a = b := by unfold rlsB; simp
theorem rlsB_false {a b : List Rl} : rlsB a b = false ↔ a ≠ b := by unfold rlsB; simp
theorem colB_iff {c d : Col} : c = d ↔ c.nm = d.nm ∧ c.ty = d.ty ∧ c.key = d.key := by
  constructor
  · rintro rfl; exact ⟨rfl, rfl, rfl⟩
  · obtain ⟨a, b, k⟩ := c; obtain ⟨a', b', k'⟩ := d
    rintro ⟨h1, h2, h3⟩
    simp only at h1 h2 h3
    rw [h1, h2, h3]

set_option maxRecDepth 100000 in set_option maxHeartbeats 1600000 in
theorem neq_pcol (c d : Col) (w : World) : (binOp .neq 40 (.agg #[.string c.nm, .int .u8 c.ty, .bool c.key]) (.agg #[.string d.nm, .int .u8 d.ty, .bool d.key])).run Try.prog w = .ok (.bool (!colB c d)) w := by
  have hb : colB c d = @decide (c.nm = d.nm ∧ c.ty = d.ty ∧ c.key = d.key) (Classical.propDecidable _) := by
    unfold colB; exact decide_eq_decide.2 colB_iff
  rw [hb]
  clear hb
  by_cases h0 : c.nm = d.nm <;> by_cases h1 : c.ty = d.ty <;> by_cases h2 : c.key = d.key <;> simp [go_sem, h0, h1, h2]
  all_goals first
    | (intro h; exact absurd (toList_inj' h) h0)
    | omega
    | (intros; omega)
    | (intros; intro h; exact absurd (toList_inj' h) h0)
    | (intros; exact h2)
    | exact h2
    | (apply decide_eq_decide.2; simp [h0, h1, h2])
    | (congr)
set_option maxRecDepth 100000 in set_option maxHeartbeats 1600000 in
theorem neq_rcol (c d : Col) (w : World) : (binOp .neq 122 (.agg #[.string c.nm, .int .u8 c.ty, .bool c.key]) (.agg #[.string d.nm, .int .u8 d.ty, .bool d.key])).run Try.prog w = .ok (.bool (!colB c d)) w := by
  have hb : colB c d = @decide (c.nm = d.nm ∧ c.ty = d.ty ∧ c.key = d.key) (Classical.propDecidable _) := by
    unfold colB; exact decide_eq_decide.2 colB_iff
  rw [hb]
  clear hb
  by_cases h0 : c.nm = d.nm <;> by_cases h1 : c.ty = d.ty <;> by_cases h2 : c.key = d.key <;> simp [go_sem, h0, h1, h2]
  all_goals first
    | (intro h; exact absurd (toList_inj' h) h0)
    | omega
    | (intros; omega)
    | (intros; intro h; exact absurd (toList_inj' h) h0)
    | (intros; exact h2)
    | exact h2
    | (apply decide_eq_decide.2; simp [h0, h1, h2])
    | (congr)

set_option maxRecDepth 100000 in set_option maxHeartbeats 2000000 in
theorem eqcols_any (l m : List Col) (a b : Option Addr) (ca cb : Nat) (w : World) (hl : Sl w (.slice a l.length ca) 3 (l.map Col.cells)) (hm : Sl w (.slice b m.length cb) 3 (m.map Col.cells)) (hlen : l.length ≤ 1000) :
    Calls Try.prog 89 #[.slice a l.length ca, .slice b m.length cb] w fun e w' => e = .returned (.bool (colsB l m)) ∧ Ext w w' := by
  have HL := Hid.mk' hl
  have HM := Hid.mk' hm
  clear hl hm
  by_cases hn : l.length = m.length
  case neg =>
    have hn' : (((l.length : Nat) : Int) != ((m.length : Nat) : Int)) = true := by simp; omega
    have HR := Hid.mk' (show colsB l m = false from colsB_false.2 (fun h => hn (by rw [h])))
    clear hn
    go_enter Try.func89, Try.ntmps89
    go_wp2
    go_ret
    exact ⟨ret_bool HR.out.symm, by (repeat (with_reducible (first | exact Ext.refl _ | assumption | exact held_left (by assumption) | apply Ext.drewN | apply Ext.drew | apply Ext.alloc | (refine Ext.setCell ?_ (by first | (simp; done) | (simp; omega) | omega) _) | (refine Ext.trans ?_ (by assumption)) | (refine Ext.trans ?_ (held_left (by assumption))))))⟩
  have hn' : (((l.length : Nat) : Int) != ((m.length : Nat) : Int)) = false := by simp; omega
  have HN := Hid.mk' hn
  clear hn
  go_enter Try.func89, Try.ntmps89
  go_wp2
  go_loopw [13] (fun i wr => ∃ k : Nat, k ≤ l.length ∧ i = .int .i64 k ∧ Hid (∀ j (h1 : j < l.length) (h2 : j < m.length), j < k → l[j] = m[j]) ∧ Hid (Ext w wr)) (fun i _ => l.length - (intOf i).toNat)
  case atStart => exact ⟨0, Nat.zero_le _, rfl, fun j _ _ h => by omega, Ext.refl _⟩
  case round =>
    obtain ⟨k, hk, rfl, hrel, hE⟩ := hrel
    by_cases hlt : k < l.length
    · have hlt2 : k < m.length := by have := HN.out; omega
      obtain ⟨b1, o1, rfl, hb1, hx1⟩ := HL.out.at_ (i := k) (by simpa using hlt)
      obtain ⟨f0, f1, f2⟩ := Col.at_ hlt hx1 hb1 hE.out
      obtain ⟨b2, o2, rfl, hb2, hx2⟩ := HM.out.at_ (i := k) (by simpa using hlt2)
      obtain ⟨p0, p1, p2⟩ := Col.at_ hlt2 hx2 hb2 hE.out
      have hbw : b1 < wr.heap.size := Nat.lt_of_lt_of_le hb1 hE.out.size
      have hbw2 : b2 < wr.heap.size := Nat.lt_of_lt_of_le hb2 hE.out.size
      have hNq := fun w => neq_pcol l[k] m[k] w
      cases hA : colB l[k] m[k] with
      | true =>
        rw [hA] at hNq
        have HA := Hid.mk' (colB_true.1 hA)
        clear hA hx1 hx2
        go_wp2
        go_region_held3 (fun w' => Ext (wr) w' ∧ (∀ b o, b < (wr).heap.size → w'.cell? ⟨b, o, none⟩ = (wr).cell? ⟨b, o, none⟩) ∧ (∀ b o, b < (wr).heap.size → w'.frozen? ⟨b, o, none⟩ = (wr).frozen? ⟨b, o, none⟩)) ((exact held_of (by (repeat (with_reducible (first | exact Ext.refl _ | assumption | exact held_left (by assumption) | apply Ext.drewN | apply Ext.drew | apply Ext.alloc | (refine Ext.setCell ?_ (by first | (simp; done) | (simp; omega) | omega) _) | (refine Ext.trans ?_ (by assumption)) | (refine Ext.trans ?_ (held_left (by assumption))))))))) (fail)
        go_wp2
        go_roundw
        case rel => exact ⟨k + 1, by omega, by go_num, fun j h1 h2 hjk => by
          by_cases e : j = k
          · subst e; exact HA.out
          · exact hrel.out j h1 h2 (by omega), Hid.mk' (hE.out.trans (by (repeat (with_reducible (first | exact Ext.refl _ | assumption | exact held_left (by assumption) | apply Ext.drewN | apply Ext.drew | apply Ext.alloc | (refine Ext.setCell ?_ (by first | (simp; done) | (simp; omega) | omega) _) | (refine Ext.trans ?_ (by assumption)) | (refine Ext.trans ?_ (held_left (by assumption))))))))⟩
        case measure => simp [intOf]; omega
      | false =>
        rw [hA] at hNq
        have HR := Hid.mk' (show colsB l m = false from colsB_false.2 (fun h => by subst h; rw [colB_true.2 rfl] at hA; cases hA))
        clear hA hx1 hx2
        go_wp2
        go_region_held3 (fun w' => Ext (wr) w' ∧ (∀ b o, b < (wr).heap.size → w'.cell? ⟨b, o, none⟩ = (wr).cell? ⟨b, o, none⟩) ∧ (∀ b o, b < (wr).heap.size → w'.frozen? ⟨b, o, none⟩ = (wr).frozen? ⟨b, o, none⟩)) ((exact held_of (by (repeat (with_reducible (first | exact Ext.refl _ | assumption | exact held_left (by assumption) | apply Ext.drewN | apply Ext.drew | apply Ext.alloc | (refine Ext.setCell ?_ (by first | (simp; done) | (simp; omega) | omega) _) | (refine Ext.trans ?_ (by assumption)) | (refine Ext.trans ?_ (held_left (by assumption))))))))) (fail)
        go_wp2
        go_ret
        exact ⟨ret_bool HR.out.symm, hE.out.trans (by (repeat (with_reducible (first | exact Ext.refl _ | assumption | exact held_left (by assumption) | apply Ext.drewN | apply Ext.drew | apply Ext.alloc | (refine Ext.setCell ?_ (by first | (simp; done) | (simp; omega) | omega) _) | (refine Ext.trans ?_ (by assumption)) | (refine Ext.trans ?_ (held_left (by assumption)))))))⟩
    · have hkk : k = l.length := by omega
      have HR := Hid.mk' (show colsB l m = true from colsB_true.2 (List.ext_getElem HN.out (fun i h1 h2 => hrel.out i h1 h2 (by omega))))
      subst hkk
      go_wp2
      go_ret
      exact ⟨ret_bool HR.out.symm, hE.out⟩

/-- How two relations part, in the order of the text. -/
theorem rl_cases (a b : Rl) : (a.oid ≠ b.oid ∧ rlB a b = false) ∨ (a.oid = b.oid ∧ a.ver ≠ b.ver ∧ rlB a b = false) ∨ (a.oid = b.oid ∧ a.ver = b.ver ∧ a.nm ≠ b.nm ∧ rlB a b = false) ∨ (a.oid = b.oid ∧ a.ver = b.ver ∧ a.nm = b.nm ∧ a.id ≠ b.id ∧ rlB a b = false) ∨ (a.oid = b.oid ∧ a.ver = b.ver ∧ a.nm = b.nm ∧ a.id = b.id ∧ rlB a b = colsB a.cols b.cols) := by
  by_cases h1 : a.oid = b.oid
  · by_cases h2 : a.ver = b.ver
    · by_cases h3 : a.nm = b.nm
      · by_cases h4 : a.id = b.id
        · refine .inr (.inr (.inr (.inr ⟨h1, h2, h3, h4, ?_⟩)))
          obtain ⟨o, v, n, i, c⟩ := a
          obtain ⟨o', v', n', i', c'⟩ := b
          simp only at h1 h2 h3 h4
          subst h1; subst h2; subst h3; subst h4
          by_cases h5 : c = c'
          · subst h5; rw [rlB_true.2 rfl, colsB_true.2 rfl]
          · rw [rlB_false.2 (fun e => h5 (by injection e)), colsB_false.2 h5]
        · exact .inr (.inr (.inr (.inl ⟨h1, h2, h3, h4, rlB_false.2 (fun e => h4 (by rw [e]))⟩)))
      · exact .inr (.inr (.inl ⟨h1, h2, h3, rlB_false.2 (fun e => h3 (by rw [e]))⟩))
    · exact .inr (.inl ⟨h1, h2, rlB_false.2 (fun e => h2 (by rw [e]))⟩)
  · exact .inl ⟨h1, rlB_false.2 (fun e => h1 (by rw [e]))⟩

set_option maxRecDepth 100000 in set_option maxHeartbeats 2000000 in
theorem same8_any (p q : RR) (w : World) (hp : p.in w) (hq : q.in w) (hlen : p.r.cols.length ≤ 1000) :
    Calls Try.prog 59 #[p.agg, q.agg] w fun e w' => e = .returned (.bool (rlB p.r q.r)) ∧ Ext w w' := by
  obtain ⟨⟨o1, v1, n1, i1, c1⟩, a1, k1⟩ := p
  obtain ⟨⟨o2, v2, n2, i2, c2⟩, a2, k2⟩ := q
  unfold RR.agg
  unfold RR.in at hp hq
  simp only at hp hq hlen ⊢
  have HE := Hid.mk' (fun W (h : Ext w W) => eqcols_any c1 c2 a1 a2 k1 k2 W (hp.ext h) (hq.ext h) hlen)
  have hc := rl_cases (⟨o1, v1, n1, i1, c1⟩ : Rl) (⟨o2, v2, n2, i2, c2⟩ : Rl)
  simp only at hc
  clear hp hq
  obtain ⟨R, hR⟩ : ∃ R, R = rlB (⟨o1, v1, n1, i1, c1⟩ : Rl) (⟨o2, v2, n2, i2, c2⟩ : Rl) := ⟨_, rfl⟩
  rw [← hR] at hc ⊢
  clear hR
  rcases hc with ⟨h1, h0⟩ | ⟨rfl, h1, h0⟩ | ⟨rfl, rfl, h1, h0⟩ | ⟨rfl, rfl, rfl, h1, h0⟩ | ⟨rfl, rfl, rfl, rfl, h0⟩
  · have e1 : (o1 == o2) = false := by simpa using h1
    have H0 := Hid.mk' h0
    clear h0 h1
    go_enter Try.func59, Try.ntmps59
    go_wp2
    go_ret
    exact ⟨ret_bool H0.out.symm, by (repeat (with_reducible (first | exact Ext.refl _ | assumption | exact held_left (by assumption) | apply Ext.drewN | apply Ext.drew | apply Ext.alloc | (refine Ext.setCell ?_ (by first | (simp; done) | (simp; omega) | omega) _) | (refine Ext.trans ?_ (by assumption)) | (refine Ext.trans ?_ (held_left (by assumption))))))⟩
  · have e1 : (v1 == v2) = false := by simpa using h1
    have H0 := Hid.mk' h0
    clear h0 h1
    go_enter Try.func59, Try.ntmps59
    go_wp2
    go_ret
    exact ⟨ret_bool H0.out.symm, by (repeat (with_reducible (first | exact Ext.refl _ | assumption | exact held_left (by assumption) | apply Ext.drewN | apply Ext.drew | apply Ext.alloc | (refine Ext.setCell ?_ (by first | (simp; done) | (simp; omega) | omega) _) | (refine Ext.trans ?_ (by assumption)) | (refine Ext.trans ?_ (held_left (by assumption))))))⟩
  · have e1 : (n1.toList == n2.toList) = false := by rw [str_beq2]; exact decide_eq_false h1
    have H0 := Hid.mk' h0
    clear h0 h1
    go_enter Try.func59, Try.ntmps59
    go_wp2
    go_ret
    exact ⟨ret_bool H0.out.symm, by (repeat (with_reducible (first | exact Ext.refl _ | assumption | exact held_left (by assumption) | apply Ext.drewN | apply Ext.drew | apply Ext.alloc | (refine Ext.setCell ?_ (by first | (simp; done) | (simp; omega) | omega) _) | (refine Ext.trans ?_ (by assumption)) | (refine Ext.trans ?_ (held_left (by assumption))))))⟩
  · have e1 : (i1 == i2) = false := by simpa using h1
    have H0 := Hid.mk' h0
    clear h0 h1
    go_enter Try.func59, Try.ntmps59
    go_wp2
    go_ret
    exact ⟨ret_bool H0.out.symm, by (repeat (with_reducible (first | exact Ext.refl _ | assumption | exact held_left (by assumption) | apply Ext.drewN | apply Ext.drew | apply Ext.alloc | (refine Ext.setCell ?_ (by first | (simp; done) | (simp; omega) | omega) _) | (refine Ext.trans ?_ (by assumption)) | (refine Ext.trans ?_ (held_left (by assumption))))))⟩
  · have H0 := Hid.mk' h0
    clear h0
    go_enter Try.func59, Try.ntmps59
    go_wp2_with (go_at_call 89; refine (HE.out _ (by (repeat (with_reducible (first | exact Ext.refl _ | assumption | exact held_left (by assumption) | apply Ext.drewN | apply Ext.drew | apply Ext.alloc | (refine Ext.setCell ?_ (by first | (simp; done) | (simp; omega) | omega) _) | (refine Ext.trans ?_ (by assumption)) | (refine Ext.trans ?_ (held_left (by assumption)))))))).mono ?_; rintro e w2 ⟨rfl, hb2⟩)
    go_ret
    exact ⟨ret_bool H0.out.symm, by (repeat (with_reducible (first | exact Ext.refl _ | assumption | exact held_left (by assumption) | apply Ext.drewN | apply Ext.drew | apply Ext.alloc | (refine Ext.setCell ?_ (by first | (simp; done) | (simp; omega) | omega) _) | (refine Ext.trans ?_ (by assumption)) | (refine Ext.trans ?_ (held_left (by assumption))))))⟩

end Go.Proofs.Ythdjinicmnhgpaa
