/-
The awake of the laws of images.
-/
import Derived.Test.YtdbepkfblfhlhaaImgR
namespace Go.Proofs.Ytdbepkfblfhlhaa
open Go.RowKit

def awCols : List Col := [⟨⟨#[97]⟩, 2, true⟩, ⟨⟨#[98]⟩, 2, false⟩]
def awRow : List K := [⟨2, ⟨2, 1, 0, 0, ⟨#[]⟩⟩⟩, ⟨2, ⟨2, 2, 0, 0, ⟨#[]⟩⟩⟩]
theorem aw_key : keyOf awCols awRow = [⟨2, ⟨2, 1, 0, 0, ⟨#[]⟩⟩⟩, K.zero] := by
  apply List.ext_getElem
  · rfl
  · intro i h1 h2
    have h3 : i = 0 ∨ i = 1 := by simp at h2; omega
    rcases h3 with rfl | rfl
    · rw [keyOf_get, if_pos (by decide)]; rfl
    · rw [keyOf_get, if_neg (by decide)]; rfl
theorem aw_img : imgE (⟨1, 1, ⟨#[116]⟩, 0, awCols⟩ : Rl) 6 0 [] [] = 14 := by
  unfold imgE
  rw [if_neg (by decide), if_neg (by decide), if_neg (by decide), if_neg (by decide), if_pos (by decide)]
theorem nilSlK (w : World) : Sl w (.slice none 0 0) 5 (([] : List K).map K.pc) := ⟨none, 0, rfl, .inl rfl⟩

set_option maxRecDepth 100000 in set_option maxHeartbeats 1600000 in
theorem awake12_any (w : World) : Calls Try.prog 31 #[] w fun e w' => e = .returned (.bool true) ∧ Ext w w' := by
  have HO1 := Hid.mk' (fun w => cof_any 2 1 0 0 ⟨#[]⟩ w)
  have HO2 := Hid.mk' (fun w => cof_any 2 2 0 0 ⟨#[]⟩ w)
  have HSC : Hid (∀ W, Ext ((w.alloc (.cells #[.string ⟨#[97]⟩, .int .u8 2, .bool true, .string ⟨#[98]⟩, .int .u8 2, .bool false] 126)).alloc (.cells #[.int .u32 1, .int .u32 1, .string ⟨#[116]⟩, .int .u8 0, .slice (some ⟨w.heap.size, 0, none⟩) 2 2] 42)) W → Sl W (.slice (some ⟨w.heap.size, 0, none⟩) 2 2) 3 (awCols.map Col.cells)) := Hid.mk' (fun W h => (Sl.new w #[.string ⟨#[97]⟩, .int .u8 2, .bool true, .string ⟨#[98]⟩, .int .u8 2, .bool false] 126 3 2 2 (awCols.map Col.cells) rfl (by intro xs hxs; simp [awCols] at hxs; rcases hxs with rfl | rfl <;> rfl) rfl).ext ((((Ext.refl _).alloc _)).trans h))
  have HKO := Hid.mk' (fun W a (h : Ext ((w.alloc (.cells #[.string ⟨#[97]⟩, .int .u8 2, .bool true, .string ⟨#[98]⟩, .int .u8 2, .bool false] 126)).alloc (.cells #[.int .u32 1, .int .u32 1, .string ⟨#[116]⟩, .int .u8 0, .slice (some ⟨w.heap.size, 0, none⟩) 2 2] 42)) W) (hl : Sl W (.slice a 2 2) 5 (awRow.map K.pc)) => keyOf_any 1 1 ⟨#[116]⟩ 0 awCols (some ⟨w.heap.size, 0, none⟩) 2 awRow a 2 W (HSC.out W h) (by decide) hl (by decide))
  have HRI := Hid.mk' (fun W (h : Ext ((w.alloc (.cells #[.string ⟨#[97]⟩, .int .u8 2, .bool true, .string ⟨#[98]⟩, .int .u8 2, .bool false] 126)).alloc (.cells #[.int .u32 1, .int .u32 1, .string ⟨#[116]⟩, .int .u8 0, .slice (some ⟨w.heap.size, 0, none⟩) 2 2] 42)) W) => image_any 6 0 [] [] none none 0 0 1 1 ⟨#[116]⟩ 0 awCols (some ⟨w.heap.size, 0, none⟩) 2 W (HSC.out W h) (by decide) (by decide) (nilSlK W) (nilSlK W) (by decide) (by decide) (by intro c hc; cases hc) (by intro c hc; cases hc) (by intro c hc; simp [awCols] at hc; rcases hc with rfl | rfl <;> decide) (by decide) (by decide) (by decide))
  rw [aw_key] at HKO
  rw [aw_img] at HRI
  simp only [show awRow.length = 2 from rfl, show awCols.length = 2 from rfl, List.length_nil] at HKO HRI
  have HBX : Hid (∀ W, Ext ((w.alloc (.cells #[.string ⟨#[97]⟩, .int .u8 2, .bool true, .string ⟨#[98]⟩, .int .u8 2, .bool false] 126)).alloc (.cells #[.int .u32 1, .int .u32 1, .string ⟨#[116]⟩, .int .u8 0, .slice (some ⟨w.heap.size, 0, none⟩) 2 2] 42)) W → ∀ o, W.cell? ⟨w.heap.size + 1, o, none⟩ = (#[.int .u32 1, .int .u32 1, .string ⟨#[116]⟩, .int .u8 0, .slice (some ⟨w.heap.size, 0, none⟩) 2 2] : Array Value)[o]?) := Hid.mk' (fun W h => ((Blk.new' (w := w.alloc (.cells #[.string ⟨#[97]⟩, .int .u8 2, .bool true, .string ⟨#[98]⟩, .int .u8 2, .bool false] 126)) #[.int .u32 1, .int .u32 1, .string ⟨#[116]⟩, .int .u8 0, .slice (some ⟨w.heap.size, 0, none⟩) 2 2] 42 (by simp)).ext h).cell)
  go_enter Try.func31, Try.ntmps31
  go_wp2_with (first
    | (go_at_call_of 64 (Value.agg #[.int .u8 2, .int .i64 1, .complex .f64 0 0, .string ⟨#[]⟩]); refine (HO1.out _).mono ?_; rintro e w1 ⟨rfl, hb1⟩)
    | (go_at_call 64; refine (HO2.out _).mono ?_; rintro e w2 ⟨rfl, hb2⟩; have hE2 : Ext ((w.alloc (.cells #[.string ⟨#[97]⟩, .int .u8 2, .bool true, .string ⟨#[98]⟩, .int .u8 2, .bool false] 126)).alloc (.cells #[.int .u32 1, .int .u32 1, .string ⟨#[116]⟩, .int .u8 0, .slice (some ⟨w.heap.size, 0, none⟩) 2 2] 42)) w2 := (by (repeat (with_reducible (first | exact Ext.refl _ | assumption | exact held_left (by assumption) | apply Ext.drewN | apply Ext.drew | apply Ext.alloc | (refine Ext.setCell ?_ (by first | (simp; done) | (simp; omega) | omega) _) | (refine Ext.trans ?_ (by assumption)) | (refine Ext.trans ?_ (held_left (by assumption))))))); have HLA := Hid.mk' (Sl.new w2 #[.int .u8 2, .int .u8 2, .int .i64 1, .complex .f64 0 0, .string ⟨#[]⟩, .int .u8 2, .int .u8 2, .int .i64 2, .complex .f64 0 0, .string ⟨#[]⟩] 78 5 2 2 (awRow.map K.pc) rfl (by intro xs hxs; simp [awRow] at hxs; rcases hxs with rfl | rfl <;> rfl) rfl); have gx := HBX.out (w2.alloc (.cells #[.int .u8 2, .int .u8 2, .int .i64 1, .complex .f64 0 0, .string ⟨#[]⟩, .int .u8 2, .int .u8 2, .int .i64 2, .complex .f64 0 0, .string ⟨#[]⟩] 78)) (hE2.alloc _))
    | (go_at_call 25; refine (HKO.out _ _ (by (repeat (with_reducible (first | exact Ext.refl _ | assumption | exact held_left (by assumption) | apply Ext.drewN | apply Ext.drew | apply Ext.alloc | (refine Ext.setCell ?_ (by first | (simp; done) | (simp; omega) | omega) _) | (refine Ext.trans ?_ (by assumption)) | (refine Ext.trans ?_ (held_left (by assumption))))))) HLA.out).mono ?_; rintro e w3 ⟨g, c, rfl, hc, hg, hr, hb3⟩; have hE3 : Ext ((w.alloc (.cells #[.string ⟨#[97]⟩, .int .u8 2, .bool true, .string ⟨#[98]⟩, .int .u8 2, .bool false] 126)).alloc (.cells #[.int .u32 1, .int .u32 1, .string ⟨#[116]⟩, .int .u8 0, .slice (some ⟨w.heap.size, 0, none⟩) 2 2] 42)) w3 := (by (repeat (with_reducible (first | exact Ext.refl _ | assumption | exact held_left (by assumption) | apply Ext.drewN | apply Ext.drew | apply Ext.alloc | (refine Ext.setCell ?_ (by first | (simp; done) | (simp; omega) | omega) _) | (refine Ext.trans ?_ (by assumption)) | (refine Ext.trans ?_ (held_left (by assumption))))))); obtain ⟨q0, -⟩ := hr.cells (i := 0) (by decide); obtain ⟨q1, -⟩ := hr.cells (i := 1) (by decide); have hgl := hr.lt; have gy := HBX.out w3 hE3; simp [K.zero] at q0 q1; clear hr gx hc hg)
    | (go_at_call 33; refine (HRI.out _ hE3).mono ?_; rintro e w4 ⟨rfl, hb4⟩))
  go_ret
  exact ⟨rfl, (((Ext.refl w).alloc _).alloc _).trans (by (repeat (with_reducible (first | exact Ext.refl _ | assumption | exact held_left (by assumption) | apply Ext.drewN | apply Ext.drew | apply Ext.alloc | (refine Ext.setCell ?_ (by first | (simp; done) | (simp; omega) | omega) _) | (refine Ext.trans ?_ (by assumption)) | (refine Ext.trans ?_ (held_left (by assumption)))))))⟩

end Go.Proofs.Ytdbepkfblfhlhaa
