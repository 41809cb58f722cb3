/-
The laws' Own of a relation of any number of columns; what is wrong with one of any number.
-/
import Derived.Deep.RegionHeld
import Derived.Maps.AppendAt
import Derived.Test.YthdjinicmnhgpaaP3
namespace Go.Proofs.Ythdjinicmnhgpaa
open Go.RowKit

theorem owns_base {w : World} {base base2 : Nat} {e : TypeId} {size n : Nat} {v : Value} {xs : List Value} (h : w.ownsRow base e size v n xs) (hb : base2 ≤ base) : w.ownsRow base2 e size v n xs := by
  obtain ⟨h1, h2⟩ := h
  refine ⟨h1, h2.imp id ?_⟩
  rintro ⟨g, cap, cur, hv, hg, hr⟩
  exact ⟨g, cap, cur, hv, by omega, hr⟩

set_option maxRecDepth 100000 in set_option maxHeartbeats 1600000 in
theorem own8_big (oid ver : Int) (nm : ByteArray) (id : Int) (cols : List Col) (a : Option Addr) (cap : Nat) (w : World) (hl : Sl w (.slice a cols.length cap) 3 (cols.map Col.cells)) (hlen : cols.length ≤ 5864062014634) :
    Calls Try.prog 20 #[.agg #[.int .u32 oid, .int .u32 ver, .string nm, .int .u8 id, .slice a cols.length cap]] w fun e w' => ∃ a' cap', e = .returned (.agg #[.int .u32 oid, .int .u32 ver, .string nm, .int .u8 id, .slice a' cols.length cap']) ∧ cols.length ≤ cap' ∧ w'.ownsRow w.heap.size 40 3 (.slice a' cols.length cap') cols.length (cols.map Col.cells).flatten ∧ Ext w w' := by
  have HL := Hid.mk' hl
  clear hl
  obtain ⟨i0, hi, hz0, hz1, hz2⟩ := info_parts Try.infoCol
  go_enter Try.func20, Try.ntmps20
  go_wp2
  go_loopw [4] (fun i wr => ∃ (k : Nat) (v : Value), k ≤ cols.length ∧ i = .int .i64 k ∧ Hid (wr.ownsRow (w.heap.size + 3) 40 3 v k ((cols.map Col.cells).take k).flatten) ∧ Blk wr w.heap.size #[.int .u32 oid, .int .u32 ver, .string nm, .int .u8 id, .slice a cols.length cap] 49 ∧ Blk wr (w.heap.size + 1) #[.int .u32 0, .int .u32 0, .string ⟨#[]⟩, .int .u8 0, .slice none 0 0] 36 ∧ Blk wr (w.heap.size + 1 + 1) #[.int .u32 oid, .int .u32 ver, .string nm, .int .u8 id, v] 36 ∧ Hid (Ext w wr)) (fun i _ => cols.length - (intOf i).toNat)
  case atStart => exact ⟨0, .slice none 0 0, Nat.zero_le _, rfl, World.ownsRow_nil _ _ _ _, ((Blk.new _ _ _).alloc _).alloc _, (Blk.new' _ _ (by simp)).alloc _, Blk.new' _ _ (by simp), Hid.mk' (by (repeat (with_reducible (first | exact Ext.refl _ | assumption | exact held_left (by assumption) | apply Ext.drewN | apply Ext.drew | apply Ext.alloc | (refine Ext.setCell ?_ (by first | (simp; done) | (simp; omega) | omega) _) | (refine Ext.trans ?_ (by assumption)) | (refine Ext.trans ?_ (held_left (by assumption)))))))⟩
  case round =>
    obtain ⟨k, v, hk, rfl, hown, hB0, hB1, hB2, hE⟩ := hrel
    by_cases hlt : k < cols.length
    · obtain ⟨b, o, rfl, hb, hc⟩ := HL.out.at_ (i := k) (by simpa using hlt)
      obtain ⟨f0, f1, f2⟩ := Col.at_ hlt hc hb hE.out
      have hT := Hid.mk' (flat_snoc (f := Col.cells) hlt)
      obtain ⟨c, hcc⟩ : ∃ c, c = cols[k] := ⟨_, rfl⟩
      rw [← hcc] at f0 f1 f2 hT
      have hbw : b < wr.heap.size := Nat.lt_of_lt_of_le hb hE.out.size
      have HC := Hid.mk' hcc
      clear hcc hc
      have g0 := hB0.cell
      have g2 := hB2.cell
      have z0 := hB0.lt
      have z1 := hB1.lt
      have z2 := hB2.lt
      have HB0 := Hid.mk' hB0
      have HB1 := Hid.mk' hB1
      have HB2 := Hid.mk' hB2
      clear hB0 hB1 hB2
      go_wp2
      refine wp_region_head 22 (fun w' => Ext (wr) w' ∧ (∀ b o, b < (wr).heap.size → w'.cell? ⟨b, o, none⟩ = (wr).cell? ⟨b, o, none⟩) ∧ (∀ b o, b < (wr).heap.size → w'.frozen? ⟨b, o, none⟩ = (wr).frozen? ⟨b, o, none⟩)) (by kernel_rfl) (by decide) ?_
      have hA0 : Hid ((fun w' => Ext (wr) w' ∧ (∀ b o, b < (wr).heap.size → w'.cell? ⟨b, o, none⟩ = (wr).cell? ⟨b, o, none⟩) ∧ (∀ b o, b < (wr).heap.size → w'.frozen? ⟨b, o, none⟩ = (wr).frozen? ⟨b, o, none⟩)) wr.drew) := held_of (by (repeat (with_reducible (first | exact Ext.refl _ | assumption | exact held_left (by assumption) | apply Ext.drewN | apply Ext.drew | apply Ext.alloc | (refine Ext.setCell ?_ (by first | (simp; done) | (simp; omega) | omega) _) | (refine Ext.trans ?_ (by assumption)) | (refine Ext.trans ?_ (held_left (by assumption)))))))
      (refine wpHd_take (i := 0) (v := ?_) rfl (by kernel_rfl) (by kernel_rfl) (by kernel_rfl) (fun _ _ _ h => h) (Or.inl ⟨by rfl, ?_⟩) hA0.out ?_; rotate_left 1; · (intro w' hS'; (obtain ⟨hEs', hcs', hfs'⟩ := hS'); go_simp; try with_reducible rfl))
      (refine wpHd_take (i := 1) (v := ?_) rfl (by kernel_rfl) (by kernel_rfl) (by kernel_rfl) (fun _ _ _ h => h) (Or.inl ⟨by rfl, ?_⟩) hA0.out ?_; rotate_left 1; · (intro w' hS'; (obtain ⟨hEs', hcs', hfs'⟩ := hS'); go_simp; try with_reducible rfl))
      (refine wpHd_take (i := 2) (v := ?_) rfl (by kernel_rfl) (by kernel_rfl) (by kernel_rfl) (fun _ _ _ h => h) (Or.inl ⟨by rfl, ?_⟩) hA0.out ?_; rotate_left 1; · (intro w' hS'; (obtain ⟨hEs', hcs', hfs'⟩ := hS'); go_simp; try with_reducible rfl))
      (refine wpHd_take (i := 3) (v := ?_) rfl (by kernel_rfl) (by kernel_rfl) (by kernel_rfl) (fun _ _ _ h => h) (Or.inl ⟨by rfl, ?_⟩) hA0.out ?_; rotate_left 1; · (intro w' hS'; (obtain ⟨hEs', hcs', hfs'⟩ := hS'); go_simp; try with_reducible rfl))
      (refine wpHd_take (i := 4) (v := ?_) rfl (by kernel_rfl) (by kernel_rfl) (by kernel_rfl) (fun _ _ _ h => h) (Or.inl ⟨by rfl, ?_⟩) hA0.out ?_; rotate_left 1; · (intro w' hS'; (obtain ⟨hEs', hcs', hfs'⟩ := hS'); go_simp; try with_reducible rfl))
      (refine wpHd_take (i := 5) (v := ?_) rfl (by kernel_rfl) (by kernel_rfl) (by kernel_rfl) (fun _ _ _ h => h) (Or.inl ⟨by rfl, ?_⟩) hA0.out ?_; rotate_left 1; · (intro w' hS'; (obtain ⟨hEs', hcs', hfs'⟩ := hS'); go_simp; try with_reducible rfl))
      (refine wpHd_take (i := 6) (v := ?_) rfl (by kernel_rfl) (by kernel_rfl) (by kernel_rfl) (fun _ _ _ h => h) (Or.inl ⟨by rfl, ?_⟩) hA0.out ?_; rotate_left 1; · (intro w' hS'; (obtain ⟨hEs', hcs', hfs'⟩ := hS'); go_simp; try with_reducible rfl))
      (refine wpHd_take (i := 7) (v := ?_) rfl (by kernel_rfl) (by kernel_rfl) (by kernel_rfl) (fun _ _ _ h => h) (Or.inl ⟨by rfl, ?_⟩) hA0.out ?_; rotate_left 1; · (intro w' hS'; (obtain ⟨hEs', hcs', hfs'⟩ := hS'); go_simp; try with_reducible rfl))
      (refine wpHd_take (i := 8) (v := ?_) rfl (by kernel_rfl) (by kernel_rfl) (by kernel_rfl) (fun _ _ _ h => h) (Or.inl ⟨by rfl, ?_⟩) hA0.out ?_; rotate_left 1; · (intro w' hS'; (obtain ⟨hEs', hcs', hfs'⟩ := hS'); go_simp; try with_reducible rfl))
      (refine wpHd_take (i := 9) (v := ?_) rfl (by kernel_rfl) (by kernel_rfl) (by kernel_rfl) (fun _ _ _ h => h) (Or.inl ⟨by rfl, ?_⟩) hA0.out ?_; rotate_left 1; · (intro w' hS'; (obtain ⟨hEs', hcs', hfs'⟩ := hS'); go_simp; try with_reducible rfl))
      (refine wpHd_take (i := 10) (v := ?_) rfl (by kernel_rfl) (by kernel_rfl) (by kernel_rfl) (fun _ _ _ h => h) (Or.inl ⟨by rfl, ?_⟩) hA0.out ?_; rotate_left 1; · (intro w' hS'; (obtain ⟨hEs', hcs', hfs'⟩ := hS'); go_simp; try with_reducible rfl))
      (refine wpHd_take (i := 11) (v := ?_) rfl (by kernel_rfl) (by kernel_rfl) (by kernel_rfl) (fun _ _ _ h => h) (Or.inl ⟨by rfl, ?_⟩) hA0.out ?_; rotate_left 1; · (intro w' hS'; (obtain ⟨hEs', hcs', hfs'⟩ := hS'); go_simp; try with_reducible rfl))
      (refine wpHd_take (i := 12) (v := ?_) rfl (by kernel_rfl) (by kernel_rfl) (by kernel_rfl) (fun _ _ _ h => h) (Or.inl ⟨by rfl, ?_⟩) hA0.out ?_; rotate_left 1; · (intro w' hS'; (obtain ⟨hEs', hcs', hfs'⟩ := hS'); go_simp; try with_reducible rfl))
      (refine wpHd_take (i := 13) (v := ?_) rfl (by kernel_rfl) (by kernel_rfl) (by kernel_rfl) (fun _ _ _ h => h) (Or.inl ⟨by rfl, ?_⟩) hA0.out ?_; rotate_left 1; · (intro w' hS'; (obtain ⟨hEs', hcs', hfs'⟩ := hS'); go_simp; try with_reducible rfl))
      (refine wpHd_take (i := 14) (v := ?_) rfl (by kernel_rfl) (by kernel_rfl) (by kernel_rfl) (fun _ _ _ h => h) (Or.inl ⟨by rfl, ?_⟩) hA0.out ?_; rotate_left 1; · (intro w' hS'; (obtain ⟨hEs', hcs', hfs'⟩ := hS'); go_simp; try with_reducible rfl))
      (refine wpHd_take (i := 15) (v := ?_) rfl (by kernel_rfl) (by kernel_rfl) (by kernel_rfl) (fun _ _ _ h => h) (Or.inl ⟨by rfl, ?_⟩) hA0.out ?_; rotate_left 1; · (intro w' hS'; (obtain ⟨hEs', hcs', hfs'⟩ := hS'); go_simp; try with_reducible rfl))
      (refine wpHd_take (i := 16) (v := ?_) rfl (by kernel_rfl) (by kernel_rfl) (by kernel_rfl) (fun _ _ _ h => h) (Or.inl ⟨by rfl, ?_⟩) hA0.out ?_; rotate_left 1; · (intro w' hS'; (obtain ⟨hEs', hcs', hfs'⟩ := hS'); go_simp; try with_reducible rfl))
      (refine wpHd_take (i := 17) (v := ?_) rfl (by kernel_rfl) (by kernel_rfl) (by kernel_rfl) (fun _ _ _ h => h) (Or.inl ⟨by rfl, ?_⟩) hA0.out ?_; rotate_left 1; · (intro w' hS'; (obtain ⟨hEs', hcs', hfs'⟩ := hS'); go_simp; try with_reducible rfl))
      (refine wpHd_take (i := 18) (v := ?_) rfl (by kernel_rfl) (by kernel_rfl) (by kernel_rfl) (fun _ _ _ h => h) (Or.inl ⟨by rfl, ?_⟩) hA0.out ?_; rotate_left 1; · (intro w' hS'; (obtain ⟨hEs', hcs', hfs'⟩ := hS'); go_simp; try with_reducible rfl))
      (refine wpHd_take (i := 19) (v := ?_) rfl (by kernel_rfl) (by kernel_rfl) (by kernel_rfl) (fun _ _ _ h => h) (Or.inl ⟨by rfl, ?_⟩) hA0.out ?_; rotate_left 1; · (intro w' hS'; (obtain ⟨hEs', hcs', hfs'⟩ := hS'); go_simp; try with_reducible rfl))
      (refine wpHd_take (i := 20) (v := ?_) rfl (by kernel_rfl) (by kernel_rfl) (by kernel_rfl) (fun _ _ _ h => h) (Or.inl ⟨by rfl, ?_⟩) hA0.out ?_; rotate_left 1; · (intro w' hS'; (obtain ⟨hEs', hcs', hfs'⟩ := hS'); go_simp; try with_reducible rfl))
      refine wpHd_one (i := 21) rfl rfl (by kernel_rfl) (fun K hK => ?_)
      go_simp
      refine hK.out _ _ (held_of (by (repeat (with_reducible (first | exact Ext.refl _ | assumption | exact held_left (by assumption) | apply Ext.drewN | apply Ext.drew | apply Ext.alloc | (refine Ext.setCell ?_ (by first | (simp; done) | (simp; omega) | omega) _) | (refine Ext.trans ?_ (by assumption)) | (refine Ext.trans ?_ (held_left (by assumption)))))))) (fun hA => ?_)
      clear hK K hA hA0
      refine wpHd_tail (by kernel_rfl) ?_
      simp only [List.drop_succ_cons, List.drop_zero]
      have hob := owns_ne hown.out (show w.heap.size + 1 + 1 < w.heap.size + 3 by omega)
      go_wp2_with (at_builtin; refine wpList_append_lies _ rfl _ _ 34 rfl (w.heap.size + 3) 40 i0 _ 3 24 Try.underlying34 hi hz0 hz1 hz2 rfl (by decide) _ _ _ rfl (owns_ext hown.out (by (repeat (with_reducible (first | exact Ext.refl _ | assumption | exact held_left (by assumption) | apply Ext.drewN | apply Ext.drew | apply Ext.alloc | (refine Ext.setCell ?_ (by first | (simp; done) | (simp; omega) | omega) _) | (refine Ext.trans ?_ (by assumption)) | (refine Ext.trans ?_ (held_left (by assumption)))))))) ⟨_, 0, none⟩ 1 1 c.cells rfl rfl ?c1 ?c2 (by decide) ?c3 ?c4 ?c5 _ rfl ?_)
      case c1 => exact cells_new _ #[.string c.nm, .int .u8 c.ty, .bool c.key] _
      case c2 => intro u hu; simp [Col.cells] at hu; rcases hu with rfl | rfl | rfl <;> rfl
      case c3 => unfold maxLen; omega
      case c4 => omega
      case c5 => simp; omega
      intro g' cap' w2 hown' hgrow _ _
      have hE1 : Ext wr (wr.drew.alloc (.cells #[.string c.nm, .int .u8 c.ty, .bool c.key] 40)) := by (repeat (with_reducible (first | exact Ext.refl _ | assumption | exact held_left (by assumption) | apply Ext.drewN | apply Ext.drew | apply Ext.alloc | (refine Ext.setCell ?_ (by first | (simp; done) | (simp; omega) | omega) _) | (refine Ext.trans ?_ (by assumption)) | (refine Ext.trans ?_ (held_left (by assumption))))))
      have HE2 : Hid (Ext w w2) := Hid.mk' (Below.grown (hE.out.trans hE1) hgrow (hE.out.trans hE1).size (fun g hg => by have := (hown.out.lt g hg).1; omega))
      have hsz2 := hgrow.size
      have HB0' := Hid.mk' ((HB0.out.ext hE1).grown hgrow (owns_ne hown.out (by omega)))
      have HB1' := Hid.mk' ((HB1.out.ext hE1).grown hgrow (owns_ne hown.out (by omega)))
      have hB2' := (HB2.out.ext hE1).grown hgrow hob
      have g2' := hB2'.cell
      have g2f := hB2'.frozen
      have z2' := hB2'.lt
      have HB2' := Hid.mk' hB2'
      have HO := Hid.mk' hown'
      clear hB2' hown' hgrow hE1 hob
      go_wp2
      go_roundw
      case rel => exact ⟨k + 1, _, by omega, by go_num, Hid.mk' (by rw [hT.out]; exact owns_set (p := ⟨w.heap.size + 1 + 1, 4, none⟩) HO.out (by show w.heap.size + 1 + 1 < _; omega) _), HB0'.out.other _ _ (by show w.heap.size ≠ w.heap.size + 1 + 1; omega), HB1'.out.other _ _ (by show w.heap.size + 1 ≠ w.heap.size + 1 + 1; omega), HB2'.out.set 4 _, Hid.mk' (HE2.out.setCell (by simp; omega) _)⟩
      case measure => simp [intOf]; omega
    · have hkk : k = cols.length := by omega
      subst hkk
      rw [show cols.length = (cols.map Col.cells).length by simp, List.take_length] at hown
      rw [List.length_map] at hown
      obtain ⟨a', c', rfl⟩ := owns_shape hown.out
      have g0 := hB0.cell
      have z0 := hB0.lt
      have g1 := hB1.cell
      have g1f := hB1.frozen
      have g2 := hB2.cell
      have z1 := hB1.lt
      have z2 := hB2.lt
      clear hB0 hB1 hB2
      go_wp2
      simp [bodyPost, results, Try.results20, go_sem, *]
      refine ⟨_, _, ⟨rfl, rfl⟩, owns_cap hown.out, owns_base (base := w.heap.size + 3) ?_ (by omega), ?_⟩
      · have hown := hown.out
        repeat (with_reducible (first | exact hown | refine owns_set ?_ (by show w.heap.size + 1 < _; omega) _))
      · have hE := hE.out
        (repeat (with_reducible (first | exact Ext.refl _ | assumption | exact held_left (by assumption) | apply Ext.drewN | apply Ext.drew | apply Ext.alloc | (refine Ext.setCell ?_ (by first | (simp; done) | (simp; omega) | omega) _) | (refine Ext.trans ?_ (by assumption)) | (refine Ext.trans ?_ (held_left (by assumption))))))

set_option maxRecDepth 100000 in set_option maxHeartbeats 4000000 in
theorem right8_big (oid ver : Int) (nm : ByteArray) (id : Int) (cols : List Col) (a : Option Addr) (cap : Nat) (w : World) (hl : Sl w (.slice a cols.length cap) 3 (cols.map Col.cells)) (hcap : cols.length ≤ cap) (hlen : cols.length ≤ 9223372036854775807)
    (hnm : nm.size ≤ 9223372036854775807) (hcs : ∀ c ∈ cols, c.nm.size ≤ 9223372036854775807) :
    Calls Try.prog 53 #[.agg #[.int .u32 oid, .int .u32 ver, .string nm, .int .u8 id, .slice a cols.length cap]] w fun e w' => e = .returned (.int .i64 (⟨oid, ver, nm, id, cols⟩ : Rl).right) ∧ Ext w w' := by
  have HN := Hid.mk' (fun w => named_any nm w hnm)
  have HK0 := Hid.mk' (fun (hn : cols.length ≤ 1000) W (h : Ext w W) => keyed_any oid ver nm id cols a cap W (hl.ext h) hn)
  have HL := Hid.mk' hl
  have HCS := Hid.mk' hcs
  clear hl hcs
  by_cases h1 : oid = 0
  · have HR := Hid.mk' (show (⟨oid, ver, nm, id, cols⟩ : Rl).right = 4 by unfold Rl.right; rw [if_pos (.inl h1)])
    have e1 : (oid == 0) = true := by simpa using h1
    clear h1
    go_enter Try.func53, Try.ntmps53
    go_wp2
    go_ret
    exact ⟨ret_int HR.out.symm, by (repeat (with_reducible (first | exact Ext.refl _ | assumption | exact held_left (by assumption) | apply Ext.drewN | apply Ext.drew | apply Ext.alloc | (refine Ext.setCell ?_ (by first | (simp; done) | (simp; omega) | omega) _) | (refine Ext.trans ?_ (by assumption)) | (refine Ext.trans ?_ (held_left (by assumption))))))⟩
  have e1 : (oid == 0) = false := by simpa using h1
  by_cases h2 : ver = 0
  · have HR := Hid.mk' (show (⟨oid, ver, nm, id, cols⟩ : Rl).right = 4 by unfold Rl.right; rw [if_pos (.inr h2)])
    have e2 : (ver == 0) = true := by simpa using h2
    clear h2 h1
    go_enter Try.func53, Try.ntmps53
    go_wp2
    go_ret
    exact ⟨ret_int HR.out.symm, by (repeat (with_reducible (first | exact Ext.refl _ | assumption | exact held_left (by assumption) | apply Ext.drewN | apply Ext.drew | apply Ext.alloc | (refine Ext.setCell ?_ (by first | (simp; done) | (simp; omega) | omega) _) | (refine Ext.trans ?_ (by assumption)) | (refine Ext.trans ?_ (held_left (by assumption))))))⟩
  have e2 : (ver == 0) = false := by simpa using h2
  cases h3 : namedB nm with
  | false =>
    have HR := Hid.mk' (show (⟨oid, ver, nm, id, cols⟩ : Rl).right = 3 by unfold Rl.right; rw [if_neg (by simp only; omega), if_pos h3])
    rw [h3] at HN
    clear h3 h2 h1
    go_enter Try.func53, Try.ntmps53
    go_wp2_with (go_at_call 82; refine (HN.out _).mono ?_; rintro e w1 ⟨rfl, rfl⟩)
    go_ret
    exact ⟨ret_int HR.out.symm, by (repeat (with_reducible (first | exact Ext.refl _ | assumption | exact held_left (by assumption) | apply Ext.drewN | apply Ext.drew | apply Ext.alloc | (refine Ext.setCell ?_ (by first | (simp; done) | (simp; omega) | omega) _) | (refine Ext.trans ?_ (by assumption)) | (refine Ext.trans ?_ (held_left (by assumption))))))⟩
  | true =>
  by_cases h4 : 2 < id
  · have HR := Hid.mk' (show (⟨oid, ver, nm, id, cols⟩ : Rl).right = 7 by unfold Rl.right; rw [if_neg (by simp only; omega), if_neg (by simp only [h3]; simp), if_pos h4])
    rw [h3] at HN
    clear h3 h2 h1
    go_enter Try.func53, Try.ntmps53
    go_wp2_with (go_at_call 82; refine (HN.out _).mono ?_; rintro e w1 ⟨rfl, rfl⟩)
    go_ret
    exact ⟨ret_int HR.out.symm, by (repeat (with_reducible (first | exact Ext.refl _ | assumption | exact held_left (by assumption) | apply Ext.drewN | apply Ext.drew | apply Ext.alloc | (refine Ext.setCell ?_ (by first | (simp; done) | (simp; omega) | omega) _) | (refine Ext.trans ?_ (by assumption)) | (refine Ext.trans ?_ (held_left (by assumption))))))⟩
  by_cases h5 : cols.length < 1
  · have HR := Hid.mk' (show (⟨oid, ver, nm, id, cols⟩ : Rl).right = 17 by unfold Rl.right; rw [if_neg (by simp only; omega), if_neg (by simp only [h3]; simp), if_neg (by simp only; omega), if_pos (.inl h5)])
    have h4' : id ≤ 2 := by omega
    rw [h3] at HN
    clear h3 h2 h1
    go_enter Try.func53, Try.ntmps53
    go_wp2_with (go_at_call 82; refine (HN.out _).mono ?_; rintro e w1 ⟨rfl, rfl⟩)
    go_ret
    exact ⟨ret_int HR.out.symm, by (repeat (with_reducible (first | exact Ext.refl _ | assumption | exact held_left (by assumption) | apply Ext.drewN | apply Ext.drew | apply Ext.alloc | (refine Ext.setCell ?_ (by first | (simp; done) | (simp; omega) | omega) _) | (refine Ext.trans ?_ (by assumption)) | (refine Ext.trans ?_ (held_left (by assumption))))))⟩
  by_cases h6 : 16 < cols.length
  · have HR := Hid.mk' (show (⟨oid, ver, nm, id, cols⟩ : Rl).right = 17 by unfold Rl.right; rw [if_neg (by simp only; omega), if_neg (by simp only [h3]; simp), if_neg (by simp only; omega), if_pos (.inr h6)])
    have h4' : id ≤ 2 := by omega
    have h5' : 1 ≤ cols.length := by omega
    rw [h3] at HN
    clear h3 h2 h1
    go_enter Try.func53, Try.ntmps53
    go_wp2_with (go_at_call 82; refine (HN.out _).mono ?_; rintro e w1 ⟨rfl, rfl⟩)
    go_ret
    exact ⟨ret_int HR.out.symm, by (repeat (with_reducible (first | exact Ext.refl _ | assumption | exact held_left (by assumption) | apply Ext.drewN | apply Ext.drew | apply Ext.alloc | (refine Ext.setCell ?_ (by first | (simp; done) | (simp; omega) | omega) _) | (refine Ext.trans ?_ (by assumption)) | (refine Ext.trans ?_ (held_left (by assumption))))))⟩
  have hlen : cols.length ≤ 1000 := by omega
  have HK := Hid.mk' (HK0.out hlen)
  clear HK0
  have HR := Hid.mk' (Rl.right_cols (r := (⟨oid, ver, nm, id, cols⟩ : Rl)) h1 h2 h3 (by simp only; omega) (by simp only; omega) (by simp only; omega))
  simp only at HR
  rw [h3] at HN
  have h4' : id ≤ 2 := by omega
  have h5' : 1 ≤ cols.length := by omega
  have h6' : cols.length ≤ 16 := by omega
  clear h3 h2 h1 h4 h5 h6
  go_enter Try.func53, Try.ntmps53
  go_wp2_with (go_at_call 82; refine (HN.out _).mono ?_; rintro e w1 ⟨rfl, rfl⟩)
  go_loopw [40] (fun i wr => ∃ k : Nat, k ≤ cols.length ∧ i = .int .i64 k ∧ Hid (∀ j, j < k → colAt cols j = 0) ∧ Hid (Ext (w.alloc (.cells #[.int .u32 oid, .int .u32 ver, .string nm, .int .u8 id, .slice a cols.length cap] 36)) wr)) (fun i _ => cols.length - (intOf i).toNat)
  case atStart => exact ⟨0, Nat.zero_le _, rfl, fun j h => by omega, Ext.refl _⟩
  case round =>
    obtain ⟨k, hk, rfl, hrel, hE⟩ := hrel
    have hBx := (Blk.new w #[.int .u32 oid, .int .u32 ver, .string nm, .int .u8 id, .slice a cols.length cap] 36).ext hE.out
    have g0 := hBx.cell
    have z0 := hBx.lt
    clear hBx
    by_cases hlt : k < cols.length
    · obtain ⟨b, o, rfl, hb, hx⟩ := HL.out.at_ (i := k) (by simpa using hlt)
      have hEw : Hid (Ext w wr) := Hid.mk' (((Ext.refl w).alloc _).trans hE.out)
      obtain ⟨f0, f1, f2⟩ := Col.at_ hlt hx hb hEw.out
      have hbw : b < wr.heap.size := Nat.lt_of_lt_of_le hb hEw.out.size
      have HF := Hid.mk' (fun W (h : Ext wr W) => column_any cols[k] (cols.take k) (some ⟨b, o, none⟩) k cap W (by rw [List.length_take]; omega) (by have := (HL.out.ext (hEw.out.trans h)).take (i := k) (by rw [List.length_map]; omega); rwa [← List.map_take] at this) (by rw [List.length_take]; omega) (HCS.out _ (List.getElem_mem hlt)))
      have hAt := colAt_lt hlt
      have q1 : (0 : Int) ≤ (k : Int) := by omega
      have q2 : (k : Int) ≤ (cap : Int) := by omega
      obtain ⟨E, hE0⟩ : ∃ E, E = colE cols[k] (cols.take k) := ⟨_, rfl⟩
      rw [← hE0] at HF hAt
      have HAt := Hid.mk' hAt
      clear hx hAt hE0
      by_cases h0 : E = 0
      · subst h0
        go_wp2
        go_region_held3 (fun w' => Ext (wr.alloc (.cells #[.string cols[k].nm, .int .u8 cols[k].ty, .bool cols[k].key] 40)) w' ∧ (∀ b o, b < (wr.alloc (.cells #[.string cols[k].nm, .int .u8 cols[k].ty, .bool cols[k].key] 40)).heap.size → w'.cell? ⟨b, o, none⟩ = (wr.alloc (.cells #[.string cols[k].nm, .int .u8 cols[k].ty, .bool cols[k].key] 40)).cell? ⟨b, o, none⟩) ∧ (∀ b o, b < (wr.alloc (.cells #[.string cols[k].nm, .int .u8 cols[k].ty, .bool cols[k].key] 40)).heap.size → w'.frozen? ⟨b, o, none⟩ = (wr.alloc (.cells #[.string cols[k].nm, .int .u8 cols[k].ty, .bool cols[k].key] 40)).frozen? ⟨b, o, none⟩)) ((exact held_of (by (repeat (with_reducible (first | exact Ext.refl _ | assumption | exact held_left (by assumption) | apply Ext.drewN | apply Ext.drew | apply Ext.alloc | (refine Ext.setCell ?_ (by first | (simp; done) | (simp; omega) | omega) _) | (refine Ext.trans ?_ (by assumption)) | (refine Ext.trans ?_ (held_left (by assumption)))))))))
          (first
            | (go_at_call 83; refine (HF.out _ (by (repeat (with_reducible (first | exact Ext.refl _ | assumption | exact held_left (by assumption) | apply Ext.drewN | apply Ext.drew | apply Ext.alloc | (refine Ext.setCell ?_ (by first | (simp; done) | (simp; omega) | omega) _) | (refine Ext.trans ?_ (by assumption)) | (refine Ext.trans ?_ (held_left (by assumption)))))))).mono ?_; rintro e w2 ⟨rfl, hb2⟩))
        go_wp2
        go_roundw
        case rel => exact ⟨k + 1, by omega, by go_num, fun j hj => by
          by_cases e : j = k
          · subst e; exact HAt.out
          · exact hrel.out j (by omega), Hid.mk' (hE.out.trans (by (repeat (with_reducible (first | exact Ext.refl _ | assumption | exact held_left (by assumption) | apply Ext.drewN | apply Ext.drew | apply Ext.alloc | (refine Ext.setCell ?_ (by first | (simp; done) | (simp; omega) | omega) _) | (refine Ext.trans ?_ (by assumption)) | (refine Ext.trans ?_ (held_left (by assumption))))))))⟩
        case measure => simp [intOf]; omega
      · have h0' : (E != 0) = true := by simpa using h0
        have HR2 := Hid.mk' (show (⟨oid, ver, nm, id, cols⟩ : Rl).right = E by rw [HR.out, firstE_at hrel.out hlt (by rw [HAt.out]; exact h0), HAt.out, if_pos h0])
        clear h0
        go_wp2
        go_region_held3 (fun w' => Ext (wr.alloc (.cells #[.string cols[k].nm, .int .u8 cols[k].ty, .bool cols[k].key] 40)) w' ∧ (∀ b o, b < (wr.alloc (.cells #[.string cols[k].nm, .int .u8 cols[k].ty, .bool cols[k].key] 40)).heap.size → w'.cell? ⟨b, o, none⟩ = (wr.alloc (.cells #[.string cols[k].nm, .int .u8 cols[k].ty, .bool cols[k].key] 40)).cell? ⟨b, o, none⟩) ∧ (∀ b o, b < (wr.alloc (.cells #[.string cols[k].nm, .int .u8 cols[k].ty, .bool cols[k].key] 40)).heap.size → w'.frozen? ⟨b, o, none⟩ = (wr.alloc (.cells #[.string cols[k].nm, .int .u8 cols[k].ty, .bool cols[k].key] 40)).frozen? ⟨b, o, none⟩)) ((exact held_of (by (repeat (with_reducible (first | exact Ext.refl _ | assumption | exact held_left (by assumption) | apply Ext.drewN | apply Ext.drew | apply Ext.alloc | (refine Ext.setCell ?_ (by first | (simp; done) | (simp; omega) | omega) _) | (refine Ext.trans ?_ (by assumption)) | (refine Ext.trans ?_ (held_left (by assumption)))))))))
          (first
            | (go_at_call 83; refine (HF.out _ (by (repeat (with_reducible (first | exact Ext.refl _ | assumption | exact held_left (by assumption) | apply Ext.drewN | apply Ext.drew | apply Ext.alloc | (refine Ext.setCell ?_ (by first | (simp; done) | (simp; omega) | omega) _) | (refine Ext.trans ?_ (by assumption)) | (refine Ext.trans ?_ (held_left (by assumption)))))))).mono ?_; rintro e w2 ⟨rfl, hb2⟩))
        go_wp2
        go_ret
        exact ⟨ret_int HR2.out.symm, hEw.out.trans (by (repeat (with_reducible (first | exact Ext.refl _ | assumption | exact held_left (by assumption) | apply Ext.drewN | apply Ext.drew | apply Ext.alloc | (refine Ext.setCell ?_ (by first | (simp; done) | (simp; omega) | omega) _) | (refine Ext.trans ?_ (by assumption)) | (refine Ext.trans ?_ (held_left (by assumption)))))))⟩
    · have hkk : k = cols.length := by omega
      have hEw : Hid (Ext w wr) := Hid.mk' (((Ext.refl w).alloc _).trans hE.out)
      have HR2 := Hid.mk' (show (⟨oid, ver, nm, id, cols⟩ : Rl).right = if id = 1 ∧ cols.any Col.key = false then 13 else 0 by rw [HR.out, firstE_zero (fun i hi => hrel.out i (by omega)), if_neg (by simp)])
      subst hkk
      clear hrel HR
      by_cases h7 : id = 1
      · subst h7
        cases h8 : cols.any Col.key with
        | false =>
          rw [h8] at HK HR2
          clear h8
          go_wp2_with (go_at_call 84; refine (HK.out _ hEw.out).mono ?_; rintro e w2 ⟨rfl, hb2⟩)
          go_ret
          exact ⟨ret_int (by rw [HR2.out]; simp), hEw.out.trans (by (repeat (with_reducible (first | exact Ext.refl _ | assumption | exact held_left (by assumption) | apply Ext.drewN | apply Ext.drew | apply Ext.alloc | (refine Ext.setCell ?_ (by first | (simp; done) | (simp; omega) | omega) _) | (refine Ext.trans ?_ (by assumption)) | (refine Ext.trans ?_ (held_left (by assumption)))))))⟩
        | true =>
          rw [h8] at HK HR2
          clear h8
          go_wp2_with (go_at_call 84; refine (HK.out _ hEw.out).mono ?_; rintro e w2 ⟨rfl, hb2⟩)
          go_ret
          exact ⟨ret_int (by rw [HR2.out]; simp), hEw.out.trans (by (repeat (with_reducible (first | exact Ext.refl _ | assumption | exact held_left (by assumption) | apply Ext.drewN | apply Ext.drew | apply Ext.alloc | (refine Ext.setCell ?_ (by first | (simp; done) | (simp; omega) | omega) _) | (refine Ext.trans ?_ (by assumption)) | (refine Ext.trans ?_ (held_left (by assumption)))))))⟩
      · have e7 : (id == 1) = false := by simpa using h7
        have HR3 := Hid.mk' (HR2.out.trans (if_neg (fun h => h7 h.1)))
        clear h7 HR2
        go_wp2
        go_ret
        exact ⟨ret_int HR3.out.symm, hEw.out⟩

end Go.Proofs.Ythdjinicmnhgpaa

/-
slices.Clone of columns.
-/
namespace Go.Proofs.Ythdjinicmnhgpaa
open Go.RowKit

theorem run_equalIn_slice_nil4 {P : Program} (w : World) (d : Nat) (t e : TypeId) (a : Option Addr) (l c : Nat) (h : P.underlying t = some (.slice e)) : (Op.equalIn (d + 1) t (.slice a l c) (.slice none 0 0)).run P w = .ok a.isNone w := by
  cases a <;> simp [Op.equalIn, run_underlying h]
@[go_sem] theorem run_eql_slice_nil4 {P : Program} (w : World) (t e : TypeId) (a : Option Addr) (l c : Nat) (h : P.underlying t = some (.slice e)) : (binOp .eql t (.slice a l c) (.slice none 0 0)).run P w = .ok (.bool a.isNone) w := by
  have e : (Op.equal t (.slice a l c) (.slice none 0 0)).run P w = .ok a.isNone w := by
    exact run_equalIn_slice_nil4 w 9999 t e a l c h
  simp [binOp, e]

theorem flatC_len (l : List Col) : (l.map Col.cells).flatten.length = l.length * 3 := by
  have := flat_length 3 (l.map Col.cells) (fun xs hxs => by simp at hxs; obtain ⟨c, _, rfl⟩ := hxs; rfl)
  rwa [List.length_map] at this
theorem news_col {w : World} {b o : Nat} {l : List Col} (h : ∀ i, i < l.length → ∀ j, j < 3 → w.cell? ⟨b, o + i * 3 + j, none⟩ = ((l.map Col.cells).getD i [])[j]?) : ∀ j u, ((l.map Col.cells).flatten)[j]? = some u → w.cell? ((⟨b, o, none⟩ : Addr).add j) = some u := by
  intro j u hj
  have hjl : j < l.length * 3 := by
    rcases Nat.lt_or_ge j (l.length * 3) with h | h
    · exact h
    · rw [List.getElem?_eq_none (by rw [flatC_len]; exact h)] at hj; cases hj
  have hplain : (⟨b, o, none⟩ : Addr).add j = ⟨b, o + j, none⟩ := by unfold Addr.add; split <;> simp_all
  have hi : j / 3 < l.length := by omega
  have hq := flat_get 3 (l.map Col.cells) (fun xs hxs => by simp at hxs; obtain ⟨c, _, rfl⟩ := hxs; rfl) (j / 3) (by simpa using hi) (j % 3) (Nat.mod_lt _ (by decide))
  have hm : j / 3 * 3 + j % 3 = j := by omega
  rw [hm] at hq
  rw [hplain, ← hj, hq, ← h (j / 3) hi (j % 3) (Nat.mod_lt _ (by decide)), Nat.add_assoc, hm]

set_option maxRecDepth 100000 in set_option maxHeartbeats 1600000 in
theorem clonec_any (l : List Col) (a : Option Addr) (cap : Nat) (w : World) (hl : Sl w (.slice a l.length cap) 3 (l.map Col.cells)) (hlen : l.length ≤ 1000) :
    Calls Try.prog 80 #[.slice a l.length cap] w fun e w' => ∃ a' cap', e = .returned (.slice a' l.length cap') ∧ w'.ownsRow w.heap.size 40 3 (.slice a' l.length cap') l.length ((l.map Col.cells).flatten) ∧ Ext w w' := by
  obtain ⟨i0, hi, hz0, hz1, hz2⟩ := info_parts Try.infoCol
  have HL := Hid.mk' hl
  clear hl
  cases a with
  | none =>
    have h0 : l = [] := by
      obtain ⟨a, c, hv, h⟩ := HL.out
      simp only [Value.slice.injEq] at hv
      rcases h with h | ⟨b, o, ha, _⟩
      · simpa using h
      · rw [← hv.1] at ha; cases ha
    obtain ⟨a, c, hv, -⟩ := HL.out
    subst h0
    clear HL hv
    go_enter Try.func80, Try.ntmps80
    go_wp2
    go_ret
    exact ⟨_, _, rfl, World.ownsRow_nil _ _ _ _, by (repeat (with_reducible (first | exact Ext.refl _ | assumption | exact held_left (by assumption) | apply Ext.drewN | apply Ext.drew | apply Ext.alloc | (refine Ext.setCell ?_ (by first | (simp; done) | (simp; omega) | omega) _) | (refine Ext.trans ?_ (by assumption)) | (refine Ext.trans ?_ (held_left (by assumption))))))⟩
  | some ad =>
    have hnews : ∀ j u, ((l.map Col.cells).flatten)[j]? = some u → (w.alloc (.cells #[] 40)).cell? (ad.add j) = some u := by
      obtain ⟨a, c, hv, h⟩ := HL.out
      simp only [Value.slice.injEq] at hv
      obtain ⟨rfl, -, -⟩ := hv
      rcases h with h | ⟨b, o, ha, hb, hc⟩
      · have h0 : l = [] := by simpa using h
        subst h0; intro j u hj; simp at hj
      · cases ha
        refine news_col fun i hi j hj => ?_
        have hE : Ext w (w.alloc (.cells #[] 40)) := (Ext.refl w).alloc _
        rw [hE.cells.1 b _ hb]
        exact hc i (by simpa using hi) j hj
    have HN := Hid.mk' hnews
    clear HL hnews
    go_enter Try.func80, Try.ntmps80
    go_wp2_with (at_builtin; refine wpList_append_own _ rfl _ _ 34 rfl w.heap.size 40 i0 _ 3 24 Try.underlying34 hi hz0 hz1 hz2 rfl (by decide) (.slice (some ⟨w.heap.size, 0, none⟩) 0 0) 0 [] rfl ?c0 _ l.length _ ((l.map Col.cells).flatten) rfl (flatC_len l) HN.out ?c2 ?c3 ?c4 ?c5 ?_)
    case c0 => exact ⟨rfl, .inr ⟨_, 0, #[], rfl, Nat.le_refl _, Blk.new w #[] _, Nat.le_refl _, Nat.zero_le _, rfl, rfl⟩⟩
    case c2 => intro u hu; rw [List.mem_flatten] at hu; obtain ⟨xs, hxs, hu⟩ := hu; rw [List.mem_map] at hxs; obtain ⟨c, _, rfl⟩ := hxs; simp [Col.cells] at hu; rcases hu with rfl | rfl | rfl <;> rfl
    case c3 => unfold maxLen; omega
    case c4 => omega
    case c5 => simp
    intro v' w2 hown hgrow _
    have hown : w2.ownsRow w.heap.size 40 3 v' l.length ((l.map Col.cells).flatten) := by simpa using hown
    have hE2 : Ext w w2 := ((Ext.refl w).alloc (.cells #[] 40)).grown (v := .slice (some ⟨w.heap.size, 0, none⟩) 0 0) (e := 40) (size := 3) (n := 0) (xs := []) ⟨rfl, .inr ⟨_, 0, #[], rfl, Nat.le_refl _, Blk.new w #[] _, Nat.le_refl _, Nat.zero_le _, rfl, rfl⟩⟩ hgrow
    obtain ⟨a', c', rfl⟩ := owns_shape hown
    have HO := Hid.mk' hown
    have HE2 := Hid.mk' hE2
    clear hown hE2 hgrow
    go_wp2
    go_ret
    exact ⟨a', c', rfl, HO.out, HE2.out⟩

end Go.Proofs.Ythdjinicmnhgpaa

/-
Catalogs, the reference's: Add, Of.
-/
namespace Go.Proofs.Ythdjinicmnhgpaa
open Go.RowKit

theorem Try.infoRRel : (Try.prog.info? 49).map (fun i => (i.zero, i.size, i.bytes)) = some (some (.agg #[.int .u32 0, .int .u32 0, .string ByteArray.empty, .int .u8 0, .slice none 0 0]), 5, 56) := by kernel_rfl

def addP (ps : List RR) (q : RR) : List RR := if addE (ps.map RR.r) q.r = 0 then insP ps q else ps
theorem addP_r (ps : List RR) (q : RR) : (addP ps q).map RR.r = addL (ps.map RR.r) q.r := by
  unfold addP addL
  split
  · exact insP_r ps q
  · rfl
theorem addP_mem {ps : List RR} {q x : RR} (h : x ∈ addP ps q) : x = q ∨ x ∈ ps := by
  unfold addP at h
  split at h
  · exact insP_mem h
  · exact .inr h
def RAddPost (ps : List RR) (a : Option Addr) (q : RR) (w : World) (e : Ending) (w' : World) : Prop :=
  ∃ a' c', e = .returned (.tuple #[.slice a' (addP ps q).length c', .int .i64 (addE (ps.map RR.r) q.r)]) ∧ RL w' (.slice a' (addP ps q).length c') (addP ps q) ∧ (∀ b o, a' = some ⟨b, o, none⟩ → (addE (ps.map RR.r) q.r ≠ 0 ∧ a' = a) ∨ w.heap.size ≤ b) ∧ Ext w w'
theorem RAddPost.keep {ps : List RR} {a : Option Addr} {cap : Nat} {q : RR} {w w' : World} {E : Int} (h : addE (ps.map RR.r) q.r = E) (h0 : E ≠ 0) (hl : RL w (.slice a ps.length cap) ps) (he : Ext w w') : RAddPost ps a q w (.returned (.tuple #[.slice a ps.length cap, .int .i64 E])) w' := by
  have e : addP ps q = ps := by unfold addP; rw [h, if_neg h0]
  exact ⟨a, cap, by rw [e, h], by rw [e]; exact hl.ext he, fun b o _ => .inl ⟨by rw [h]; exact h0, rfl⟩, he⟩

theorem RAddPost.more {ps : List RR} {a a' : Option Addr} {c' : Nat} {q : RR} {w w' : World} (h : addE (ps.map RR.r) q.r = 0) (hl : RL w' (.slice a' (insP ps q).length c') (insP ps q)) (hb : ∀ b o, a' = some ⟨b, o, none⟩ → w.heap.size ≤ b) (he : Ext w w') : RAddPost ps a q w (.returned (.tuple #[.slice a' (insP ps q).length c', .int .i64 0])) w' := by
  have e : addP ps q = insP ps q := by unfold addP; rw [if_pos h]
  exact ⟨a', c', by rw [e, h], by rw [e]; exact hl, fun b o h => .inr (hb b o h), he⟩

set_option maxRecDepth 100000 in set_option maxHeartbeats 4000000 in
theorem radd_any (ps : List RR) (a : Option Addr) (cap : Nat) (q : RR) (w : World) (hl : RL w (.slice a ps.length cap) ps) (hq : q.in w) (hb : q.r.wb) (hlen : ps.length ≤ 1000) :
    Calls Try.prog 26 #[.slice a ps.length cap, q.agg] w (RAddPost ps a q w) := by
  obtain ⟨i0, hi, hz0, hz1, hz2⟩ := info_parts Try.infoRRel
  obtain ⟨⟨oid, ver, nm, id, cols⟩, a2, c2⟩ := q
  unfold RR.agg
  unfold RR.in at hq
  obtain ⟨hb1, hb2, hb3⟩ := hb
  simp only at hq hb1 hb2 hb3 ⊢
  have HR8 := Hid.mk' (fun W (h : Ext w W) => rright8_big oid ver nm id cols a2 c2 W (hq.ext h) (by omega) hb1 hb2)
  have HGT := Hid.mk' (fun W (h : Ext w W) => rget_any ps a cap oid ver W (hl.ext h) hlen)
  have HL := Hid.mk' hl
  have HQ := Hid.mk' hq
  have HAE : Hid (addE (ps.map RR.r) (⟨oid, ver, nm, id, cols⟩ : Rl) = if (⟨oid, ver, nm, id, cols⟩ : Rl).right ≠ 0 then (⟨oid, ver, nm, id, cols⟩ : Rl).right else if hasR oid ver (ps.map RR.r) = true then 9 else if 64 ≤ (ps.map RR.r).length then 8 else 0) := Hid.mk' rfl
  rw [getP_is] at HGT
  obtain ⟨⟨⟨o1, v1, n1, i1, k1⟩, x1, y1⟩, hz⟩ : ∃ z, z = (getP oid ver ps).getD RR.zero := ⟨_, rfl⟩
  rw [← hz] at HGT
  unfold RR.agg at HGT
  simp only at HGT
  clear hl hq hb1 hb2 hz
  obtain ⟨E, hE⟩ : ∃ E, E = Rl.right (⟨oid, ver, nm, id, cols⟩ : Rl) := ⟨_, rfl⟩
  rw [← hE] at HR8 HAE
  by_cases h0 : E = 0
  case neg =>
    have h0' : (E != 0) = true := by simpa using h0
    have HA := Hid.mk' (HAE.out.trans (if_pos h0))
    have H0 := Hid.mk' h0
    clear h0 hE HAE
    go_enter Try.func26, Try.ntmps26
    go_wp2_with (go_at_call 55; refine (HR8.out _ (by (repeat (with_reducible (first | exact Ext.refl _ | assumption | exact held_left (by assumption) | apply Ext.drewN | apply Ext.drew | apply Ext.alloc | (refine Ext.setCell ?_ (by first | (simp; done) | (simp; omega) | omega) _) | (refine Ext.trans ?_ (by assumption)) | (refine Ext.trans ?_ (held_left (by assumption)))))))).mono ?_; rintro e w1 ⟨rfl, hb1⟩; have hE1 : Ext w w1 := (by (repeat (with_reducible (first | exact Ext.refl _ | assumption | exact held_left (by assumption) | apply Ext.drewN | apply Ext.drew | apply Ext.alloc | (refine Ext.setCell ?_ (by first | (simp; done) | (simp; omega) | omega) _) | (refine Ext.trans ?_ (by assumption)) | (refine Ext.trans ?_ (held_left (by assumption))))))))
    go_ret2
    exact RAddPost.keep HA.out H0.out HL.out hE1
  subst h0
  have HAE2 := Hid.mk' (HAE.out.trans (if_neg (by simp)))
  clear HAE hE
  cases hh : hasR oid ver (ps.map RR.r) with
  | true =>
    rw [hh] at HGT HAE2
    have HA := Hid.mk' (HAE2.out.trans (if_pos rfl))
    clear hh HAE2
    go_enter Try.func26, Try.ntmps26
    go_wp2_with (first
      | (go_at_call 55; refine (HR8.out _ (by (repeat (with_reducible (first | exact Ext.refl _ | assumption | exact held_left (by assumption) | apply Ext.drewN | apply Ext.drew | apply Ext.alloc | (refine Ext.setCell ?_ (by first | (simp; done) | (simp; omega) | omega) _) | (refine Ext.trans ?_ (by assumption)) | (refine Ext.trans ?_ (held_left (by assumption)))))))).mono ?_; rintro e w1 ⟨rfl, hb1⟩; have hE1 : Ext w w1 := (by (repeat (with_reducible (first | exact Ext.refl _ | assumption | exact held_left (by assumption) | apply Ext.drewN | apply Ext.drew | apply Ext.alloc | (refine Ext.setCell ?_ (by first | (simp; done) | (simp; omega) | omega) _) | (refine Ext.trans ?_ (by assumption)) | (refine Ext.trans ?_ (held_left (by assumption))))))); have g0 := ((Blk.new w #[.int .u32 oid, .int .u32 ver, .string nm, .int .u8 id, .slice a2 cols.length c2] 49).ext hb1).cell)
      | (go_at_call 27; refine (HGT.out _ (by (repeat (with_reducible (first | exact Ext.refl _ | assumption | exact held_left (by assumption) | apply Ext.drewN | apply Ext.drew | apply Ext.alloc | (refine Ext.setCell ?_ (by first | (simp; done) | (simp; omega) | omega) _) | (refine Ext.trans ?_ (by assumption)) | (refine Ext.trans ?_ (held_left (by assumption)))))))).mono ?_; rintro e w2 ⟨rfl, hb2⟩; have hE2 : Ext w w2 := (by (repeat (with_reducible (first | exact Ext.refl _ | assumption | exact held_left (by assumption) | apply Ext.drewN | apply Ext.drew | apply Ext.alloc | (refine Ext.setCell ?_ (by first | (simp; done) | (simp; omega) | omega) _) | (refine Ext.trans ?_ (by assumption)) | (refine Ext.trans ?_ (held_left (by assumption)))))))))
    go_ret2
    exact RAddPost.keep HA.out (by decide) HL.out (by (repeat (with_reducible (first | exact Ext.refl _ | assumption | exact held_left (by assumption) | apply Ext.drewN | apply Ext.drew | apply Ext.alloc | (refine Ext.setCell ?_ (by first | (simp; done) | (simp; omega) | omega) _) | (refine Ext.trans ?_ (by assumption)) | (refine Ext.trans ?_ (held_left (by assumption)))))))
  | false =>
    rw [hh] at HGT HAE2
    have HHH := Hid.mk' hh
    have HAE3 := Hid.mk' (HAE2.out.trans (if_neg (by simp)))
    rw [List.length_map] at HAE3
    clear hh HAE2
    by_cases h64 : 64 ≤ ps.length
    · have HA := Hid.mk' (HAE3.out.trans (if_pos h64))
      clear HAE3
      go_enter Try.func26, Try.ntmps26
      go_wp2_with (first
        | (go_at_call 55; refine (HR8.out _ (by (repeat (with_reducible (first | exact Ext.refl _ | assumption | exact held_left (by assumption) | apply Ext.drewN | apply Ext.drew | apply Ext.alloc | (refine Ext.setCell ?_ (by first | (simp; done) | (simp; omega) | omega) _) | (refine Ext.trans ?_ (by assumption)) | (refine Ext.trans ?_ (held_left (by assumption)))))))).mono ?_; rintro e w1 ⟨rfl, hb1⟩; have hE1 : Ext w w1 := (by (repeat (with_reducible (first | exact Ext.refl _ | assumption | exact held_left (by assumption) | apply Ext.drewN | apply Ext.drew | apply Ext.alloc | (refine Ext.setCell ?_ (by first | (simp; done) | (simp; omega) | omega) _) | (refine Ext.trans ?_ (by assumption)) | (refine Ext.trans ?_ (held_left (by assumption))))))); have g0 := ((Blk.new w #[.int .u32 oid, .int .u32 ver, .string nm, .int .u8 id, .slice a2 cols.length c2] 49).ext hb1).cell)
        | (go_at_call 27; refine (HGT.out _ (by (repeat (with_reducible (first | exact Ext.refl _ | assumption | exact held_left (by assumption) | apply Ext.drewN | apply Ext.drew | apply Ext.alloc | (refine Ext.setCell ?_ (by first | (simp; done) | (simp; omega) | omega) _) | (refine Ext.trans ?_ (by assumption)) | (refine Ext.trans ?_ (held_left (by assumption)))))))).mono ?_; rintro e w2 ⟨rfl, hb2⟩; have hE2 : Ext w w2 := (by (repeat (with_reducible (first | exact Ext.refl _ | assumption | exact held_left (by assumption) | apply Ext.drewN | apply Ext.drew | apply Ext.alloc | (refine Ext.setCell ?_ (by first | (simp; done) | (simp; omega) | omega) _) | (refine Ext.trans ?_ (by assumption)) | (refine Ext.trans ?_ (held_left (by assumption)))))))))
      go_ret2
      exact RAddPost.keep HA.out (by decide) HL.out (by (repeat (with_reducible (first | exact Ext.refl _ | assumption | exact held_left (by assumption) | apply Ext.drewN | apply Ext.drew | apply Ext.alloc | (refine Ext.setCell ?_ (by first | (simp; done) | (simp; omega) | omega) _) | (refine Ext.trans ?_ (by assumption)) | (refine Ext.trans ?_ (held_left (by assumption)))))))
    · have HA := Hid.mk' (HAE3.out.trans (if_neg h64))
      have h64' : ps.length < 64 := by omega
      clear HAE3 h64
      have HPQ : Hid (addP ps (⟨⟨oid, ver, nm, id, cols⟩, a2, c2⟩ : RR) = insP ps (⟨⟨oid, ver, nm, id, cols⟩, a2, c2⟩ : RR)) := Hid.mk' (by unfold addP; rw [if_pos HA.out])
      obtain ⟨P, hP⟩ : ∃ P, P = posR oid ver (ps.map RR.r) := ⟨_, rfl⟩
      have HPP := Hid.mk' hP
      have hPn : P ≤ ps.length := by have := posR_le oid ver (ps.map RR.r); rw [List.length_map] at this; omega
      clear hP
      go_enter Try.func26, Try.ntmps26
      go_wp2_with (first
        | (go_at_call 55; refine (HR8.out _ (by (repeat (with_reducible (first | exact Ext.refl _ | assumption | exact held_left (by assumption) | apply Ext.drewN | apply Ext.drew | apply Ext.alloc | (refine Ext.setCell ?_ (by first | (simp; done) | (simp; omega) | omega) _) | (refine Ext.trans ?_ (by assumption)) | (refine Ext.trans ?_ (held_left (by assumption)))))))).mono ?_; rintro e w1 ⟨rfl, hb1⟩; have hE1 : Ext (w.alloc (.cells #[.int .u32 oid, .int .u32 ver, .string nm, .int .u8 id, .slice a2 cols.length c2] 49)) w1 := (by (repeat (with_reducible (first | exact Ext.refl _ | assumption | exact held_left (by assumption) | apply Ext.drewN | apply Ext.drew | apply Ext.alloc | (refine Ext.setCell ?_ (by first | (simp; done) | (simp; omega) | omega) _) | (refine Ext.trans ?_ (by assumption)) | (refine Ext.trans ?_ (held_left (by assumption))))))); have g0 := ((Blk.new w #[.int .u32 oid, .int .u32 ver, .string nm, .int .u8 id, .slice a2 cols.length c2] 49).ext hb1).cell)
        | (go_at_call 27; refine (HGT.out _ (by (repeat (with_reducible (first | exact Ext.refl _ | assumption | exact held_left (by assumption) | apply Ext.drewN | apply Ext.drew | apply Ext.alloc | (refine Ext.setCell ?_ (by first | (simp; done) | (simp; omega) | omega) _) | (refine Ext.trans ?_ (by assumption)) | (refine Ext.trans ?_ (held_left (by assumption)))))))).mono ?_; rintro e w2 ⟨rfl, hb2⟩; have hE2 : Ext (w.alloc (.cells #[.int .u32 oid, .int .u32 ver, .string nm, .int .u8 id, .slice a2 cols.length c2] 49)) w2 := (by (repeat (with_reducible (first | exact Ext.refl _ | assumption | exact held_left (by assumption) | apply Ext.drewN | apply Ext.drew | apply Ext.alloc | (refine Ext.setCell ?_ (by first | (simp; done) | (simp; omega) | omega) _) | (refine Ext.trans ?_ (by assumption)) | (refine Ext.trans ?_ (held_left (by assumption)))))))))
      have HE2 := Hid.mk' hE2
      clear g0 hb1 hb2 hE1 hE2
      go_loopw [9, 10, 11] (fun v pb i wr => ∃ k : Nat, k ≤ ps.length ∧ i = .int .i64 k ∧ pb = .bool (decide (P < k)) ∧ Hid (wr.ownsRow (w.heap.size + 1) 49 5 v (outs ps (⟨⟨oid, ver, nm, id, cols⟩, a2, c2⟩ : RR) k).length ((outs ps (⟨⟨oid, ver, nm, id, cols⟩, a2, c2⟩ : RR) k).map RR.cells).flatten) ∧ Hid (Ext (w.alloc (.cells #[.int .u32 oid, .int .u32 ver, .string nm, .int .u8 id, .slice a2 cols.length c2] 49)) wr)) (fun _ _ i _ => ps.length - (intOf i).toNat)
      case atStart => exact ⟨0, Nat.zero_le _, rfl, by rw [decide_eq_false (Nat.not_lt_zero _)], Hid.mk' (by rw [outs_zero]; exact World.ownsRow_nil _ _ _ _), Hid.mk' (by have hE2 := HE2.out; (repeat (with_reducible (first | exact Ext.refl _ | assumption | exact held_left (by assumption) | apply Ext.drewN | apply Ext.drew | apply Ext.alloc | (refine Ext.setCell ?_ (by first | (simp; done) | (simp; omega) | omega) _) | (refine Ext.trans ?_ (by assumption)) | (refine Ext.trans ?_ (held_left (by assumption)))))))⟩
      case round =>
        obtain ⟨k, hk, rfl, rfl, hown, hE⟩ := hrel
        have HEW := Hid.mk' (((Ext.refl w).alloc (.cells #[.int .u32 oid, .int .u32 ver, .string nm, .int .u8 id, .slice a2 cols.length c2] 49)).trans hE.out)
        have HB0 := Hid.mk' ((Blk.new w #[.int .u32 oid, .int .u32 ver, .string nm, .int .u8 id, .slice a2 cols.length c2] 49).ext hE.out)
        have g0 := HB0.out.cell
        have z0 := HB0.out.lt
        by_cases hlt : k < ps.length
        · obtain ⟨b, o, rfl, hb, hx⟩ := HL.out.row.at_ (i := k) (by simpa using hlt)
          have HF := Hid.mk' (fun W (h : Ext w W) => RR.at_ hlt hx hb h)
          obtain ⟨f0, f1, f2, f3, f4⟩ := HF.out _ HEW.out
          have hbw : b < wr.heap.size := Nat.lt_of_lt_of_le hb HEW.out.size
          have HLT : Hid (k < P → aheadP ps[k].r.oid ps[k].r.ver oid ver) := Hid.mk' (fun h => by have := posR_lt oid ver (ps.map RR.r) k (by simpa using hlt) (by rw [← HPP.out]; exact h); rwa [List.getElem_map] at this)
          have HEQ : Hid (k = P → ¬ aheadP ps[k].r.oid ps[k].r.ver oid ver) := Hid.mk' (fun h => by
            subst h
            have hp := HPP.out
            have := posR_at oid ver (ps.map RR.r) (by rw [← hp]; simpa using hlt)
            simp only [← hp, List.getElem_map] at this
            exact this)
          have HNE : Hid (¬ (ps[k].r.oid = oid ∧ ps[k].r.ver = ver)) := Hid.mk' (fun h => by
            have := hasR_at (o := oid) (v := ver) (l := ps.map RR.r) (i := k) (by simpa using hlt) (by rw [List.getElem_map]; exact h)
            rw [HHH.out] at this; cases this)
          have HO1 := Hid.mk' (fun h => outs_lt (ps := ps) (q := (⟨⟨oid, ver, nm, id, cols⟩, a2, c2⟩ : RR)) hlt (HPP.out ▸ h))
          have HO2 := Hid.mk' (fun h => outs_eq (ps := ps) (q := (⟨⟨oid, ver, nm, id, cols⟩, a2, c2⟩ : RR)) hlt (HPP.out ▸ h))
          have HO3 := Hid.mk' (fun h => outs_gt (ps := ps) (q := (⟨⟨oid, ver, nm, id, cols⟩, a2, c2⟩ : RR)) hlt (HPP.out ▸ h))
          obtain ⟨p, hp⟩ : ∃ p, p = ps[k] := ⟨_, rfl⟩
          rw [← hp] at f0 f1 f2 f3 f4 HF HLT HEQ HNE HO1 HO2 HO3
          have hol : (outs ps (⟨⟨oid, ver, nm, id, cols⟩, a2, c2⟩ : RR) k).length ≤ 100 := by unfold outs; split <;> rw [List.length_take] <;> omega
          clear hx hp
          have hcl : (RR.cells p).length = 5 := rfl
          have hql : (RR.cells (⟨⟨oid, ver, nm, id, cols⟩, a2, c2⟩ : RR)).length = 5 := rfl
          rcases Nat.lt_trichotomy k P with hkP | hkP | hkP
          · have hab : aheadB oid ver p.r.oid p.r.ver = false := decide_eq_false (by have := HLT.out hkP; unfold aheadP at *; omega)
            have HAH := Hid.mk' (fun W => rahead_any oid ver p.r.oid p.r.ver W)
            rw [hab] at HAH
            have HO := Hid.mk' (HO1.out hkP)
            have hd : decide (P < k) = false := decide_eq_false (by omega)
            have hd2 : decide (P < k + 1) = false := decide_eq_false (by omega)
            rw [hd]
            clear hab HLT HEQ HNE HO1 HO2 HO3 hd
            go_wp2
            go_region_held3 (fun w' => Ext (wr) w' ∧ (∀ b o, b < (wr).heap.size → w'.cell? ⟨b, o, none⟩ = (wr).cell? ⟨b, o, none⟩) ∧ (∀ b o, b < (wr).heap.size → w'.frozen? ⟨b, o, none⟩ = (wr).frozen? ⟨b, o, none⟩)) ((exact held_of (by (repeat (with_reducible (first | exact Ext.refl _ | assumption | exact held_left (by assumption) | apply Ext.drewN | apply Ext.drew | apply Ext.alloc | (refine Ext.setCell ?_ (by first | (simp; done) | (simp; omega) | omega) _) | (refine Ext.trans ?_ (by assumption)) | (refine Ext.trans ?_ (held_left (by assumption))))))))) (first | (go_at_call 56; refine (HAH.out _).mono ?_; rintro e w3 ⟨rfl, hb3⟩; have HE3 := Hid.mk' (show Ext wr w3 by (repeat (with_reducible (first | exact Ext.refl _ | assumption | exact held_left (by assumption) | apply Ext.drewN | apply Ext.drew | apply Ext.alloc | (refine Ext.setCell ?_ (by first | (simp; done) | (simp; omega) | omega) _) | (refine Ext.trans ?_ (by assumption)) | (refine Ext.trans ?_ (held_left (by assumption)))))))))
            clear hb3 g0
            have HO3 := Hid.mk' (owns_ext hown.out HE3.out)
            have HX3 : Hid (Ext (w.alloc (.cells #[.int .u32 oid, .int .u32 ver, .string nm, .int .u8 id, .slice a2 cols.length c2] 49)) w3) := Hid.mk' (hE.out.trans HE3.out)
            go_wp2_with (at_builtin; refine wpList_append_own _ rfl _ _ 22 rfl (w.heap.size + 1) 49 i0 _ 5 56 Try.underlying22 hi hz0 hz1 hz2 rfl (by decide) _ _ _ rfl ((owns_ext HO3.out (by (repeat (with_reducible (first | exact Ext.refl _ | assumption | exact held_left (by assumption) | apply Ext.drewN | apply Ext.drew | apply Ext.alloc | (refine Ext.setCell ?_ (by first | (simp; done) | (simp; omega) | omega) _) | (refine Ext.trans ?_ (by assumption)) | (refine Ext.trans ?_ (held_left (by assumption))))))))) ⟨_, 0, none⟩ 1 1 p.cells rfl rfl (cells_new _ #[.int .u32 p.r.oid, .int .u32 p.r.ver, .string p.r.nm, .int .u8 p.r.id, .slice p.a p.r.cols.length p.c] _) (by intro u hu; simp [RR.cells] at hu; rcases hu with rfl | rfl | rfl | rfl | rfl <;> rfl) (by unfold maxLen; omega) (by omega) (by have := HEW.out.size; have := HE3.out.size; simp; omega) ?_)
            intro v' w4 hown' hgrow _
            have HX4 : Hid (Ext (w.alloc (.cells #[.int .u32 oid, .int .u32 ver, .string nm, .int .u8 id, .slice a2 cols.length c2] 49)) w4) := Hid.mk' (Below.grown ((HX3.out).alloc _) hgrow (by have := HX3.out.size; simp at this ⊢; omega) (fun g hg => by have := (HO3.out.lt g hg).1; simp; omega))
            have HO4 := Hid.mk' hown'
            clear hown' hgrow
            go_wp2
            go_roundw
            case rel => exact ⟨k + 1, by omega, by go_num, by rw [hd2], Hid.mk' (by rw [HO.out, List.map_append, List.flatten_append, List.length_append]; simpa using HO4.out), HX4⟩
            case measure => simp [intOf]; omega
          · have hab : aheadB oid ver p.r.oid p.r.ver = true := decide_eq_true (by have h1 := HEQ.out hkP; have h2 := HNE.out; unfold aheadP at *; omega)
            have HAH := Hid.mk' (fun W => rahead_any oid ver p.r.oid p.r.ver W)
            rw [hab] at HAH
            have HO := Hid.mk' (HO2.out hkP)
            have hd : decide (P < k) = false := decide_eq_false (by omega)
            have hd2 : decide (P < k + 1) = true := decide_eq_true (by omega)
            rw [hd]
            subst hkP
            clear hab HLT HEQ HNE HO1 HO2 HO3 hd
            go_wp2
            go_region_held3 (fun w' => Ext (wr) w' ∧ (∀ b o, b < (wr).heap.size → w'.cell? ⟨b, o, none⟩ = (wr).cell? ⟨b, o, none⟩) ∧ (∀ b o, b < (wr).heap.size → w'.frozen? ⟨b, o, none⟩ = (wr).frozen? ⟨b, o, none⟩)) ((exact held_of (by (repeat (with_reducible (first | exact Ext.refl _ | assumption | exact held_left (by assumption) | apply Ext.drewN | apply Ext.drew | apply Ext.alloc | (refine Ext.setCell ?_ (by first | (simp; done) | (simp; omega) | omega) _) | (refine Ext.trans ?_ (by assumption)) | (refine Ext.trans ?_ (held_left (by assumption))))))))) (first | (go_at_call 56; refine (HAH.out _).mono ?_; rintro e w3 ⟨rfl, hb3⟩; have HE3 := Hid.mk' (show Ext wr w3 by (repeat (with_reducible (first | exact Ext.refl _ | assumption | exact held_left (by assumption) | apply Ext.drewN | apply Ext.drew | apply Ext.alloc | (refine Ext.setCell ?_ (by first | (simp; done) | (simp; omega) | omega) _) | (refine Ext.trans ?_ (by assumption)) | (refine Ext.trans ?_ (held_left (by assumption)))))))))
            clear hb3
            have HO3 := Hid.mk' (owns_ext hown.out HE3.out)
            have HX3 : Hid (Ext (w.alloc (.cells #[.int .u32 oid, .int .u32 ver, .string nm, .int .u8 id, .slice a2 cols.length c2] 49)) w3) := Hid.mk' (hE.out.trans HE3.out)
            have hbw3 : b < w3.heap.size := Nat.lt_of_lt_of_le hbw HE3.out.size
            go_wp2_with (at_builtin; refine wpList_append_own _ rfl _ _ 22 rfl (w.heap.size + 1) 49 i0 _ 5 56 Try.underlying22 hi hz0 hz1 hz2 rfl (by decide) _ _ _ rfl ((owns_ext HO3.out (by (repeat (with_reducible (first | exact Ext.refl _ | assumption | exact held_left (by assumption) | apply Ext.drewN | apply Ext.drew | apply Ext.alloc | (refine Ext.setCell ?_ (by first | (simp; done) | (simp; omega) | omega) _) | (refine Ext.trans ?_ (by assumption)) | (refine Ext.trans ?_ (held_left (by assumption))))))))) ⟨_, 0, none⟩ 1 1 (RR.cells (⟨⟨oid, ver, nm, id, cols⟩, a2, c2⟩ : RR)) rfl rfl (cells_new _ #[.int .u32 oid, .int .u32 ver, .string nm, .int .u8 id, .slice a2 cols.length c2] _) (by intro u hu; simp [RR.cells] at hu; rcases hu with rfl | rfl | rfl | rfl | rfl <;> rfl) (by unfold maxLen; omega) (by omega) (by have := HEW.out.size; have := HE3.out.size; simp; omega) ?_)
            intro v' w4 hown' hgrow _
            have HX4 : Hid (Ext (w.alloc (.cells #[.int .u32 oid, .int .u32 ver, .string nm, .int .u8 id, .slice a2 cols.length c2] 49)) w4) := Hid.mk' (Below.grown ((HX3.out).alloc _) hgrow (by have := HX3.out.size; simp at this ⊢; omega) (fun g hg => by have := (HO3.out.lt g hg).1; simp; omega))
            have HO4 := Hid.mk' hown'
            clear f0 f1 f2 f3 f4
            obtain ⟨f0, f1, f2, f3, f4⟩ := HF.out w4 (((Ext.refl w).alloc _).trans HX4.out)
            have hbw4 : b < w4.heap.size := Nat.lt_of_lt_of_le hb (((Ext.refl w).alloc (.cells #[.int .u32 oid, .int .u32 ver, .string nm, .int .u8 id, .slice a2 cols.length c2] 49)).trans HX4.out).size
            have hz4 : w.heap.size + 1 ≤ w4.heap.size := by have := HX4.out.size; simpa using this
            clear hown' hgrow g0
            go_wp2_with ((at_builtin; refine wpList_append_own _ rfl _ _ 22 rfl (w.heap.size + 1) 49 i0 _ 5 56 Try.underlying22 hi hz0 hz1 hz2 rfl (by decide) _ _ _ rfl ((owns_ext HO4.out (by (repeat (with_reducible (first | exact Ext.refl _ | assumption | exact held_left (by assumption) | apply Ext.drewN | apply Ext.drew | apply Ext.alloc | (refine Ext.setCell ?_ (by first | (simp; done) | (simp; omega) | omega) _) | (refine Ext.trans ?_ (by assumption)) | (refine Ext.trans ?_ (held_left (by assumption))))))))) ⟨_, 0, none⟩ 1 1 p.cells rfl rfl (cells_new _ #[.int .u32 p.r.oid, .int .u32 p.r.ver, .string p.r.nm, .int .u8 p.r.id, .slice p.a p.r.cols.length p.c] _) (by intro u hu; simp [RR.cells] at hu; rcases hu with rfl | rfl | rfl | rfl | rfl <;> rfl) (by unfold maxLen; omega) (by omega) (by simp; omega) ?_))
            intro v' w5 hown' hgrow _
            have HX5 : Hid (Ext (w.alloc (.cells #[.int .u32 oid, .int .u32 ver, .string nm, .int .u8 id, .slice a2 cols.length c2] 49)) w5) := Hid.mk' (Below.grown ((HX4.out).alloc _) hgrow (by have := HX4.out.size; simp at this ⊢; omega) (fun g hg => by have := (HO4.out.lt g hg).1; simp; omega))
            have HO5 := Hid.mk' hown'
            clear hown' hgrow
            go_wp2
            go_roundw
            case rel => exact ⟨k + 1, by omega, by go_num, by rw [hd2], Hid.mk' (by rw [HO.out, List.map_append, List.map_append, List.flatten_append, List.flatten_append, List.length_append, List.length_append]; simpa using HO5.out), HX5⟩
            case measure => simp [intOf]; omega
          · have HO := Hid.mk' (HO3.out hkP)
            have hd : decide (P < k) = true := decide_eq_true (by omega)
            have hd2 : decide (P < k + 1) = true := decide_eq_true (by omega)
            rw [hd]
            clear HLT HEQ HNE HO1 HO2 HO3 hd
            go_wp2
            refine wp_region_head 11 (fun w' => Ext (wr) w' ∧ (∀ b o, b < (wr).heap.size → w'.cell? ⟨b, o, none⟩ = (wr).cell? ⟨b, o, none⟩) ∧ (∀ b o, b < (wr).heap.size → w'.frozen? ⟨b, o, none⟩ = (wr).frozen? ⟨b, o, none⟩)) (by kernel_rfl) (by decide) ?_
            have hA0 : Hid ((fun w' => Ext (wr) w' ∧ (∀ b o, b < (wr).heap.size → w'.cell? ⟨b, o, none⟩ = (wr).cell? ⟨b, o, none⟩) ∧ (∀ b o, b < (wr).heap.size → w'.frozen? ⟨b, o, none⟩ = (wr).frozen? ⟨b, o, none⟩)) wr.drew) := held_of (by (repeat (with_reducible (first | exact Ext.refl _ | assumption | exact held_left (by assumption) | apply Ext.drewN | apply Ext.drew | apply Ext.alloc | (refine Ext.setCell ?_ (by first | (simp; done) | (simp; omega) | omega) _) | (refine Ext.trans ?_ (by assumption)) | (refine Ext.trans ?_ (held_left (by assumption)))))))
            (refine wpHd_takeD (i := 0) (d := some 37) (v := ?_) rfl rfl (by kernel_rfl) (by kernel_rfl) (by kernel_rfl) (fun _ _ _ h => h) (Or.inl ⟨by rfl, ?_⟩) hA0.out ?_; rotate_left 1; (· (intro w' hS'; (obtain ⟨hEs', hcs', hfs'⟩ := hS'); go_simp; try with_reducible rfl)))
            try simp only [Act.put, List.setIfInBounds_toArray, List.set_cons_zero, List.set_cons_succ]
            (refine wpHd_takeD (i := 1) (d := some 38) (v := ?_) rfl rfl (by kernel_rfl) (by kernel_rfl) (by kernel_rfl) (fun _ _ _ h => h) (Or.inl ⟨by rfl, ?_⟩) hA0.out ?_; rotate_left 1; (· (intro w' hS'; (obtain ⟨hEs', hcs', hfs'⟩ := hS'); go_simp; try with_reducible rfl)))
            try simp only [Act.put, List.setIfInBounds_toArray, List.set_cons_zero, List.set_cons_succ]
            (refine wpHd_takeD (i := 2) (d := some 39) (v := ?_) rfl rfl (by kernel_rfl) (by kernel_rfl) (by kernel_rfl) (fun _ _ _ h => h) (Or.inl ⟨by rfl, ?_⟩) hA0.out ?_; rotate_left 1; (· (intro w' hS'; (obtain ⟨hEs', hcs', hfs'⟩ := hS'); go_simp; try with_reducible rfl)))
            try simp only [Act.put, List.setIfInBounds_toArray, List.set_cons_zero, List.set_cons_succ]
            refine wpHd_takeD (i := 3) (d := some 40) (v := undef) rfl rfl (by kernel_rfl) (by kernel_rfl) (by kernel_rfl) (fun _ _ _ h => h) (Or.inr ⟨by rfl, rfl⟩) hA0.out ?_
            try simp only [Act.put, List.setIfInBounds_toArray, List.set_cons_zero, List.set_cons_succ]
            refine wpHd_takeD (i := 4) (d := some 41) (v := undef) rfl rfl (by kernel_rfl) (by kernel_rfl) (by kernel_rfl) (fun _ _ _ h => h) (Or.inr ⟨by rfl, rfl⟩) hA0.out ?_
            try simp only [Act.put, List.setIfInBounds_toArray, List.set_cons_zero, List.set_cons_succ]
            refine wpHd_takeD (i := 5) (d := some 42) (v := undef) rfl rfl (by kernel_rfl) (by kernel_rfl) (by kernel_rfl) (fun _ _ _ h => h) (Or.inr ⟨by rfl, rfl⟩) hA0.out ?_
            try simp only [Act.put, List.setIfInBounds_toArray, List.set_cons_zero, List.set_cons_succ]
            refine wpHd_takeD (i := 6) (d := some 43) (v := undef) rfl rfl (by kernel_rfl) (by kernel_rfl) (by kernel_rfl) (fun _ _ _ h => h) (Or.inr ⟨by rfl, rfl⟩) hA0.out ?_
            try simp only [Act.put, List.setIfInBounds_toArray, List.set_cons_zero, List.set_cons_succ]
            refine wpHd_takeD (i := 7) (d := some 44) (v := undef) rfl rfl (by kernel_rfl) (by kernel_rfl) (by kernel_rfl) (fun _ _ _ h => h) (Or.inr ⟨by rfl, rfl⟩) hA0.out ?_
            try simp only [Act.put, List.setIfInBounds_toArray, List.set_cons_zero, List.set_cons_succ]
            refine wpHd_takeD (i := 8) (d := some 45) (v := undef) rfl rfl (by kernel_rfl) (by kernel_rfl) (by kernel_rfl) (fun _ _ _ h => h) (Or.inr ⟨by rfl, rfl⟩) hA0.out ?_
            try simp only [Act.put, List.setIfInBounds_toArray, List.set_cons_zero, List.set_cons_succ]
            refine wpHd_takeD (i := 9) (d := some 46) (v := undef) rfl rfl (by kernel_rfl) (by kernel_rfl) (by kernel_rfl) (fun _ _ _ h => h) (Or.inr ⟨by rfl, rfl⟩) hA0.out ?_
            try simp only [Act.put, List.setIfInBounds_toArray, List.set_cons_zero, List.set_cons_succ]
            refine wpHd_takeD (i := 10) (d := some 47) (v := undef) rfl rfl (by kernel_rfl) (by kernel_rfl) (by kernel_rfl) (fun _ _ _ h => h) (Or.inr ⟨by rfl, rfl⟩) hA0.out ?_
            try simp only [Act.put, List.setIfInBounds_toArray, List.set_cons_zero, List.set_cons_succ]
            refine wpHd_tail (by kernel_rfl) ?_
            simp only [List.drop_succ_cons, List.drop_zero]
            have HE3 : Hid (Ext wr wr) := Hid.mk' (Ext.refl _)
            have HO3 := hown
            have HX3 := hE
            clear hA0 g0
            go_wp2_with (at_builtin; refine wpList_append_own _ rfl _ _ 22 rfl (w.heap.size + 1) 49 i0 _ 5 56 Try.underlying22 hi hz0 hz1 hz2 rfl (by decide) _ _ _ rfl ((owns_ext HO3.out (by (repeat (with_reducible (first | exact Ext.refl _ | assumption | exact held_left (by assumption) | apply Ext.drewN | apply Ext.drew | apply Ext.alloc | (refine Ext.setCell ?_ (by first | (simp; done) | (simp; omega) | omega) _) | (refine Ext.trans ?_ (by assumption)) | (refine Ext.trans ?_ (held_left (by assumption))))))))) ⟨_, 0, none⟩ 1 1 p.cells rfl rfl (cells_new _ #[.int .u32 p.r.oid, .int .u32 p.r.ver, .string p.r.nm, .int .u8 p.r.id, .slice p.a p.r.cols.length p.c] _) (by intro u hu; simp [RR.cells] at hu; rcases hu with rfl | rfl | rfl | rfl | rfl <;> rfl) (by unfold maxLen; omega) (by omega) (by have := HEW.out.size; have := HE3.out.size; simp; omega) ?_)
            intro v' w4 hown' hgrow _
            have HX4 : Hid (Ext (w.alloc (.cells #[.int .u32 oid, .int .u32 ver, .string nm, .int .u8 id, .slice a2 cols.length c2] 49)) w4) := Hid.mk' (Below.grown ((HX3.out.drew).alloc (.cells #[.int .u32 p.r.oid, .int .u32 p.r.ver, .string p.r.nm, .int .u8 p.r.id, .slice p.a p.r.cols.length p.c] 49)) hgrow (by have := HX3.out.size; simp at this ⊢; omega) (fun g hg => by have := (HO3.out.lt g hg).1; simp; omega))
            have HO4 := Hid.mk' hown'
            clear hown' hgrow
            go_wp2
            go_roundw
            case rel => exact ⟨k + 1, by omega, by go_num, by rw [hd2], Hid.mk' (by rw [HO.out, List.map_append, List.flatten_append, List.length_append]; simpa using HO4.out), HX4⟩
            case measure => simp [intOf]; omega
        · have hkk : k = ps.length := by omega
          subst hkk
          have hol : (outs ps (⟨⟨oid, ver, nm, id, cols⟩, a2, c2⟩ : RR) ps.length).length ≤ 100 := by unfold outs; split <;> rw [List.length_take] <;> omega
          have hql : (RR.cells (⟨⟨oid, ver, nm, id, cols⟩, a2, c2⟩ : RR)).length = 5 := rfl
          have HE3 : Hid (Ext wr wr) := Hid.mk' (Ext.refl _)
          have HX3 := hE
          by_cases hPk : P < ps.length
          · rw [decide_eq_true hPk]
            have HO := Hid.mk' (outs_end (ps := ps) (q := (⟨⟨oid, ver, nm, id, cols⟩, a2, c2⟩ : RR)) (by rw [← HPP.out]; exact hPk))
            rw [HO.out] at hown
            obtain ⟨a', c', hv⟩ := owns_shape hown.out
            subst hv
            go_wp2
            go_ret2
            refine RAddPost.more HA.out ?_ (fun b o h => ?_) HEW.out
            · exact ⟨Sl.of_owns (base := w.heap.size + 1) (e := 49) (by rw [List.length_map]; exact hown.out) (RR.len _), fun x hx => (insP_mem hx).elim (fun e => by rw [e]; exact HQ.out.ext HEW.out) (fun h => (HL.out.sl x h).ext HEW.out)⟩
            · have := (hown.out.lt b (by rw [h]; rfl)).1
              omega
          · have hPe : P = ps.length := by omega
            rw [decide_eq_false hPk]
            have HO := Hid.mk' (outs_last (ps := ps) (q := (⟨⟨oid, ver, nm, id, cols⟩, a2, c2⟩ : RR)) (by rw [← HPP.out]; exact hPe))
            clear hPe hPk
            go_wp2_with (at_builtin; refine wpList_append_own _ rfl _ _ 22 rfl (w.heap.size + 1) 49 i0 _ 5 56 Try.underlying22 hi hz0 hz1 hz2 rfl (by decide) _ _ _ rfl ((owns_ext hown.out (by (repeat (with_reducible (first | exact Ext.refl _ | assumption | exact held_left (by assumption) | apply Ext.drewN | apply Ext.drew | apply Ext.alloc | (refine Ext.setCell ?_ (by first | (simp; done) | (simp; omega) | omega) _) | (refine Ext.trans ?_ (by assumption)) | (refine Ext.trans ?_ (held_left (by assumption))))))))) ⟨_, 0, none⟩ 1 1 (RR.cells (⟨⟨oid, ver, nm, id, cols⟩, a2, c2⟩ : RR)) rfl rfl (cells_new _ #[.int .u32 oid, .int .u32 ver, .string nm, .int .u8 id, .slice a2 cols.length c2] _) (by intro u hu; simp [RR.cells] at hu; rcases hu with rfl | rfl | rfl | rfl | rfl <;> rfl) (by unfold maxLen; omega) (by omega) (by have := HEW.out.size; have := HE3.out.size; simp; omega) ?_)
            intro v' w4 hown' hgrow _
            have HX4 : Hid (Ext (w.alloc (.cells #[.int .u32 oid, .int .u32 ver, .string nm, .int .u8 id, .slice a2 cols.length c2] 49)) w4) := Hid.mk' (Below.grown ((HX3.out).alloc (.cells #[.int .u32 oid, .int .u32 ver, .string nm, .int .u8 id, .slice a2 cols.length c2] 49)) hgrow (by have := HX3.out.size; simp at this ⊢; omega) (fun g hg => by have := (hown.out.lt g hg).1; simp; omega))
            have hown2 : w4.ownsRow (w.heap.size + 1) 49 5 v' (insP ps (⟨⟨oid, ver, nm, id, cols⟩, a2, c2⟩ : RR)).length ((insP ps (⟨⟨oid, ver, nm, id, cols⟩, a2, c2⟩ : RR)).map RR.cells).flatten := by
              rw [← HO.out, List.map_append, List.flatten_append, List.length_append]; simpa using hown'
            obtain ⟨a', c', hv⟩ := owns_shape hown2
            subst hv
            have HO4 := Hid.mk' hown2
            have HEW4 := Hid.mk' (((Ext.refl w).alloc (.cells #[.int .u32 oid, .int .u32 ver, .string nm, .int .u8 id, .slice a2 cols.length c2] 49)).trans HX4.out)
            clear hown' hgrow hown2
            go_wp2
            go_ret2
            refine RAddPost.more HA.out ?_ (fun b o h => ?_) HEW4.out
            · exact ⟨Sl.of_owns (base := w.heap.size + 1) (e := 49) (by rw [List.length_map]; exact HO4.out) (RR.len _), fun x hx => (insP_mem hx).elim (fun e => by rw [e]; exact HQ.out.ext HEW4.out) (fun h => (HL.out.sl x h).ext HEW4.out)⟩
            · have := (HO4.out.lt b (by rw [h]; rfl)).1
              omega

/-- A catalog of the first k. -/
def upP (ps : List RR) : Nat → List RR
  | 0 => []
  | k + 1 => if h : k < ps.length then addP (upP ps k) ps[k] else upP ps k
theorem upP_succ {ps : List RR} {k : Nat} (h : k < ps.length) : upP ps (k + 1) = addP (upP ps k) ps[k] := by
  conv => lhs; unfold upP
  rw [dif_pos h]
theorem upP_r (ps : List RR) : ∀ k, (upP ps k).map RR.r = ofUp (ps.map RR.r) k
  | 0 => rfl
  | k + 1 => by
    unfold upP ofUp
    by_cases h : k < ps.length
    · rw [dif_pos h, dif_pos (by rw [List.length_map]; exact h), addP_r, upP_r ps k, List.getElem_map]
    · rw [dif_neg h, dif_neg (by rw [List.length_map]; exact h)]
      exact upP_r ps k
theorem upP_mem {ps : List RR} : ∀ {k : Nat} {x : RR}, x ∈ upP ps k → x ∈ ps
  | 0, x, h => by cases h
  | k + 1, x, h => by
    unfold upP at h
    split at h
    · rename_i hk
      rcases addP_mem h with rfl | h
      · exact List.getElem_mem hk
      · exact upP_mem h
    · exact upP_mem h
theorem upP_64 (ps : List RR) (k : Nat) : (upP ps k).length ≤ 64 := by
  have := (ofUp_ok (ps.map RR.r) k).n64
  rw [← upP_r, List.length_map] at this
  exact this
theorem ofAt_P {ps : List RR} {k : Nat} (h : k < ps.length) : ofAt (ps.map RR.r) k = addE ((upP ps k).map RR.r) ps[k].r := by
  unfold ofAt
  rw [dif_pos (by rw [List.length_map]; exact h), upP_r, List.getElem_map]

/-- What is wrong first with relations; its place. -/
def ofE (l : List Rl) : Int := firstE (ofAt l) l.length
def plE (f : Nat → Int) : Nat → Nat
  | 0 => 0
  | n + 1 => if firstE f n ≠ 0 then plE f n else if f n ≠ 0 then n else n + 1
theorem plE_zero {f : Nat → Int} : ∀ {n : Nat}, (∀ i, i < n → f i = 0) → plE f n = n
  | 0, _ => rfl
  | n + 1, h => by
    unfold plE
    rw [if_neg (by rw [firstE_zero (fun i hi => h i (by omega))]; simp), if_neg (by rw [h n (by omega)]; simp)]
theorem plE_at {f : Nat → Int} {k : Nat} (h : ∀ i, i < k → f i = 0) (h0 : f k ≠ 0) : ∀ {n : Nat}, k < n → plE f n = k
  | 0, hk => by omega
  | n + 1, hk => by
    unfold plE
    by_cases e : k = n
    · subst e
      rw [if_neg (by rw [firstE_zero h]; simp), if_pos h0]
    · rw [if_pos (by rw [firstE_at h (show k < n by omega) h0]; exact h0), plE_at h h0 (by omega)]
def ofPl (l : List Rl) : Nat := plE (ofAt l) l.length

def ROfPost (ps : List RR) (w : World) (e : Ending) (w' : World) : Prop :=
  ∃ a' c' n, e = .returned (.tuple #[.slice a' n c', .int .i64 (ofPl (ps.map RR.r) : Nat), .int .i64 (ofE (ps.map RR.r))]) ∧ (ofE (ps.map RR.r) = 0 → n = (upP ps ps.length).length ∧ RL w' (.slice a' n c') (upP ps ps.length)) ∧ (ofE (ps.map RR.r) ≠ 0 → a' = none ∧ n = 0 ∧ c' = 0) ∧ Ext w w'

set_option maxRecDepth 100000 in set_option maxHeartbeats 2000000 in
theorem rof_any (ps : List RR) (a : Option Addr) (cap : Nat) (w : World) (hl : RL w (.slice a ps.length cap) ps) (hb : ∀ p ∈ ps, p.r.wb) (hlen : ps.length ≤ 9223372036854775807) :
    Calls Try.prog 12 #[.slice a ps.length cap] w (ROfPost ps w) := by
  have HL := Hid.mk' hl
  have HB := Hid.mk' hb
  clear hl hb
  go_enter Try.func12, Try.ntmps12
  go_wp2
  go_loopw [5, 6] (fun v i wr => ∃ (k : Nat) (a' : Option Addr) (c' : Nat), k ≤ ps.length ∧ i = .int .i64 k ∧ v = .slice a' (upP ps k).length c' ∧ Hid (∀ j, j < k → ofAt (ps.map RR.r) j = 0) ∧ Hid (RL wr (.slice a' (upP ps k).length c') (upP ps k)) ∧ Hid (Ext w wr)) (fun _ i _ => ps.length - (intOf i).toNat)
  case atStart => exact ⟨0, none, 0, Nat.zero_le _, rfl, rfl, Hid.mk' (fun j h => by omega), Hid.mk' (RL.nil _), Hid.mk' (Ext.refl _)⟩
  case round =>
    obtain ⟨k, a', c', hk, rfl, rfl, hz, hr, hE⟩ := hrel
    by_cases hlt : k < ps.length
    · obtain ⟨b, o, rfl, hb, hx⟩ := HL.out.row.at_ (i := k) (by simpa using hlt)
      obtain ⟨f0, f1, f2, f3, f4⟩ := RR.at_ hlt hx hb hE.out
      have hbw : b < wr.heap.size := Nat.lt_of_lt_of_le hb hE.out.size
      have hin := HL.out.sl _ (List.getElem_mem hlt)
      have hwb := HB.out _ (List.getElem_mem hlt)
      have HS := Hid.mk' (upP_succ hlt)
      have HAT := Hid.mk' (ofAt_P hlt)
      obtain ⟨p, hp⟩ : ∃ p, p = ps[k] := ⟨_, rfl⟩
      rw [← hp] at f0 f1 f2 f3 f4 hin hwb HS HAT
      have HAD := Hid.mk' (fun W (h : Ext wr W) => radd_any (upP ps k) a' c' p W (hr.out.ext h) (hin.ext (hE.out.trans h)) hwb (by have := upP_64 ps k; omega))
      unfold RAddPost RR.agg at HAD
      rw [← HS.out, ← HAT.out] at HAD
      clear hx hp hin hwb
      obtain ⟨E, hEE⟩ : ∃ E, E = ofAt (ps.map RR.r) k := ⟨_, rfl⟩
      rw [← hEE] at HAD
      by_cases h0 : E = 0
      · have H0 := Hid.mk' (hEE.symm.trans h0)
        subst h0
        clear hEE
        go_wp2_with (go_at_call 26; refine (HAD.out _ (Ext.refl _)).mono ?_; rintro e w1 ⟨a1, c1, rfl, hl1, -, hb1⟩; have HL1 := Hid.mk' hl1; clear hl1)
        go_roundw
        case rel => exact ⟨k + 1, a1, c1, by omega, by go_num, rfl, Hid.mk' (fun j hj => by
          by_cases e : j = k
          · subst e; exact H0.out
          · exact hz.out j (by omega)), HL1, Hid.mk' (hE.out.trans hb1)⟩
        case measure => simp [intOf]; omega
      · have h0' : (E != 0) = true := by simpa using h0
        have HF := Hid.mk' (show ofE (ps.map RR.r) = E by unfold ofE; rw [firstE_at hz.out (by rw [List.length_map]; exact hlt) (by rw [← hEE]; exact h0), hEE])
        have HPL := Hid.mk' (show ofPl (ps.map RR.r) = k from plE_at hz.out (by rw [← hEE]; exact h0) (by rw [List.length_map]; exact hlt))
        have H0 := Hid.mk' h0
        clear h0 hEE
        go_wp2_with (go_at_call 26; refine (HAD.out _ (Ext.refl _)).mono ?_; rintro e w1 ⟨a1, c1, rfl, -, -, hb1⟩)
        go_ret3
        exact ⟨none, 0, 0, by rw [HF.out, HPL.out]; rfl, fun h => absurd (HF.out.symm.trans h) H0.out, fun _ => ⟨rfl, rfl, rfl⟩, hE.out.trans hb1⟩
    · obtain rfl : k = ps.length := by omega
      have HF := Hid.mk' (show ofE (ps.map RR.r) = 0 by unfold ofE; exact firstE_zero (by rw [List.length_map]; exact hz.out))
      have HPL := Hid.mk' (show ofPl (ps.map RR.r) = ps.length by unfold ofPl; rw [plE_zero (by rw [List.length_map]; exact hz.out), List.length_map])
      go_wp2
      go_ret3
      exact ⟨a', c', _, by rw [HF.out, HPL.out]; rfl, fun _ => ⟨rfl, hr.out⟩, fun h => absurd HF.out h, hE.out⟩

end Go.Proofs.Ythdjinicmnhgpaa
