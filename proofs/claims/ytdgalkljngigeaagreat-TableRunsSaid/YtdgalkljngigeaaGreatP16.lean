/-
The example of tables, in plain words.
-/
import Derived.ProofKit
import Derived.OpenShut
import Derived.Deep.Slices
import Derived.Carry
import Derived.Test.YtdgalkljngigeaaGreatP15
namespace Go.Proofs.YtdgalkljngigeaaGreat
open Go.RowKit

def aw22 : Rl := ⟨1, 1, ⟨#[116]⟩, 1, [⟨⟨#[97]⟩, 2, true⟩]⟩
def aw22r : List K := [⟨2, ⟨2, 1, 0, 0, ⟨#[]⟩⟩⟩]
def aw22e : Ev := ⟨4, 1, 1, 0, [], aw22r, [], 0⟩
theorem aw22_up : ofUp [aw22] 1 = [aw22] := by rfl
theorem aw22_ofE : ofE [aw22] = 0 := by decide
theorem aw22_ofPl : ofPl [aw22] = 1 := by decide
theorem aw22_wb : aw22.wb := ⟨by show 1 ≤ 9223372036854775807; omega, by intro c hc; simp [aw22] at hc; subst hc; show 1 ≤ 9223372036854775807; omega, by show 1 ≤ 5864062014634; omega, by decide⟩
theorem aw22_full : isFullE aw22r aw22 = 0 := by decide
theorem aw22_img : imgE aw22 4 0 [] aw22r = 0 := by
  unfold imgE
  rw [if_neg (by decide), if_neg (by decide), if_neg (by decide), if_neg (by decide), if_neg (by decide), if_neg (by decide), if_neg (by decide), if_neg (by decide), if_neg (by rw [aw22_full]; decide), if_neg (by decide), if_neg (by decide)]
theorem aw22_own : ownB aw22e = true := by
  unfold ownB
  exact evB_true.2 rfl
theorem aw22_get : getR 1 1 [aw22] = some aw22 := by rfl
theorem aw22_ev : evE aw22e [aw22] = 0 := by
  unfold evE
  rw [if_neg (by decide), if_neg (by rw [aw22_own]; simp), if_neg (by decide)]
  rw [show getR aw22e.ao aw22e.av [aw22] = some aw22 from rfl]
  exact aw22_img
theorem aw22_rt {n : Nat} (hn : n ≤ 512) : rtE ⟨1, 0, List.replicate n aw22e⟩ [aw22] = 0 :=
  rt_from (show (1 : Int) ≠ 0 by decide) (by simpa using hn) (fun e he => by rw [List.eq_of_mem_replicate he]; exact aw22_ev)
theorem aw22_key : keyQ aw22.cols aw22r aw22r = true := by unfold keyQ; exact rowB_true.2 rfl
theorem aw22_t0 : takenB aw22.cols [] aw22r (-1) = false := by
  unfold takenB byKeyI
  rfl
theorem aw22_t1 : takenB aw22.cols [aw22r] aw22r (-1) = true := by
  unfold takenB byKeyI
  rw [show idxI (fun i => decide ((i : Int) ≠ -1) && keyQ aw22.cols ([aw22r].getD i []) aw22r) [aw22r].length = 0 from idxI_at (k := 0) (fun i hi => by omega) (by show (decide (((0 : Nat) : Int) ≠ -1) && keyQ aw22.cols aw22r aw22r) = true; rw [aw22_key]; rfl) (by decide)]
  rfl
theorem aw22_e0 : rowsE aw22.cols [] aw22e = 0 := by unfold rowsE; rw [if_pos (show aw22e.kind = 4 from rfl), show takenB aw22.cols [] aw22e.a (-1) = false from aw22_t0]; rfl
theorem aw22_e1 : rowsE aw22.cols [aw22r] aw22e = 9 := by unfold rowsE; rw [if_pos (show aw22e.kind = 4 from rfl), show takenB aw22.cols [aw22r] aw22e.a (-1) = true from aw22_t1]; rfl
theorem aw22_l0 : rowsL aw22.cols [] aw22e = [aw22r] := by unfold rowsL; rw [if_neg (by rw [aw22_e0]; simp), if_pos (show aw22e.kind = 4 from rfl)]; rfl
theorem aw22_x0 : evX [aw22] T0 aw22e = 0 := by
  unfold evX
  rw [if_neg (by decide), show getR aw22e.ao aw22e.av [aw22] = some aw22 from rfl]
  exact aw22_e0
theorem aw22_T1 : evT [aw22] T0 aw22e = T0.put 1 1 [aw22r] := by
  unfold evT
  rw [if_neg (by decide), show getR aw22e.ao aw22e.av [aw22] = some aw22 from rfl]
  show T0.put 1 1 (rowsL aw22.cols [] aw22e) = _
  rw [aw22_l0]
theorem aw22_x1 : evX [aw22] (T0.put 1 1 [aw22r]) aw22e = 9 := by
  unfold evX
  rw [if_neg (by decide), show getR aw22e.ao aw22e.av [aw22] = some aw22 from rfl]
  show rowsE aw22.cols ((T0.put 1 1 [aw22r]) 1 1) aw22e = 9
  rw [show (T0.put 1 1 [aw22r]) 1 1 = [aw22r] from by unfold Tb.put; rw [if_pos ⟨rfl, rfl⟩]]
  exact aw22_e1
/-- Twice the same row: nothing is done. -/
theorem aw22_two : apE [aw22] T0 ⟨1, 0, [aw22e, aw22e]⟩ = 9 ∧ apP [aw22] T0 ⟨1, 0, [aw22e, aw22e]⟩ = 1 ∧ apT [aw22] T0 ⟨1, 0, [aw22e, aw22e]⟩ = T0 := by
  have h0 : ∀ i, i < 1 → evXat [aw22] T0 [aw22e, aw22e] i = 0 := fun i hi => by
    obtain rfl : i = 0 := by omega
    rw [evXat_at (by decide)]
    exact aw22_x0
  have h1 : evXat [aw22] T0 [aw22e, aw22e] 1 = 9 := by
    rw [evXat_at (by decide), stT_succ (by decide)]
    show evX [aw22] (evT [aw22] T0 aw22e) aw22e = 9
    rw [aw22_T1]
    exact aw22_x1
  obtain ⟨e1, e2, e3⟩ := ap_bad (ps := [aw22]) (T := T0) (t := ⟨1, 0, [aw22e, aw22e]⟩) (k := 1) (aw22_rt (n := 2) (by decide)) h0 (by decide) (by show evXat [aw22] T0 [aw22e, aw22e] 1 ≠ 0; rw [h1]; decide)
  exact ⟨e1.trans h1, e2, e3⟩
theorem aw22_one : apE [aw22] T0 ⟨1, 0, [aw22e]⟩ = 0 ∧ apP [aw22] T0 ⟨1, 0, [aw22e]⟩ = -1 ∧ apT [aw22] T0 ⟨1, 0, [aw22e]⟩ = T0.put 1 1 [aw22r] := by
  obtain ⟨e1, e2, e3⟩ := ap_good (ps := [aw22]) (T := T0) (t := ⟨1, 0, [aw22e]⟩) (aw22_rt (n := 1) (by decide)) (fun i hi => by
    obtain rfl : i = 0 := by simp at hi; omega
    show evXat [aw22] T0 [aw22e] 0 = 0
    rw [evXat_at (by decide)]
    exact aw22_x0)
  refine ⟨e1, e2, e3.trans ?_⟩
  show stT [aw22] T0 [aw22e] 1 = _
  rw [stT_succ (by decide)]
  exact aw22_T1
theorem aw22_small : aw22e.small := ⟨by decide, by decide, by decide⟩
theorem aw22_wk : aw22e.wk := ⟨(fun c hc => by cases hc), (fun c hc => by
  have h1 : c = ⟨2, ⟨2, 1, 0, 0, ⟨#[]⟩⟩⟩ := by simpa [aw22e, aw22r] using hc
  subst h1
  exact ⟨by decide, Nat.zero_le _⟩), by decide⟩

end Go.Proofs.YtdgalkljngigeaaGreat

/-
The laws' Own of a row, as a row that can be written.
-/
namespace Go.Proofs.YtdgalkljngigeaaGreat
open Go.RowKit

set_option maxRecDepth 100000 in set_option maxHeartbeats 1600000 in
theorem ownK_own (l : List K) (a : Option Addr) (cap : Nat) (w : World) (hl : Sl w (.slice a l.length cap) 6 (l.map K.rc)) (hlen : l.length ≤ 1000) :
    Calls Tryz.prog 24 #[.slice a l.length cap] w fun e w' => ∃ a' cap', e = .returned (.slice a' l.length cap') ∧ w'.ownsRow w.heap.size 124 5 (.slice a' l.length cap') l.length ((l.map K.pc).flatten) ∧ Ext w w' := by
  have HL := Hid.mk' hl
  clear hl
  obtain ⟨i0, hi, hz0, hz1, hz2⟩ := info_parts Tryz.infoCellP
  go_enter Tryz.func24, Tryz.ntmps24
  go_wp2
  go_loopw [3, 4] (fun v i wr => ∃ k : Nat, k ≤ l.length ∧ i = .int .i64 k ∧ Hid (wr.ownsRow w.heap.size 124 5 v k ((l.map K.pc).take k).flatten) ∧ Hid (Ext w wr)) (fun _ i _ => l.length - (intOf i).toNat)
  case atStart => exact ⟨0, Nat.zero_le _, rfl, World.ownsRow_nil _ _ _ _, Ext.refl _⟩
  case round =>
    obtain ⟨k, hk, rfl, hown, hE⟩ := hrel
    by_cases hlt : k < l.length
    · obtain ⟨b, o, rfl, hb, hx⟩ := HL.out.at_ (i := k) (by simpa using hlt)
      obtain ⟨f0, f1, f2, f3, f4, f5⟩ := K.rcAt hlt hx hb hE.out
      have hbw : b < wr.heap.size := Nat.lt_of_lt_of_le hb hE.out.size
      have HT := Hid.mk' (flat_snoc (f := K.pc) hlt)
      have HC := Hid.mk' (fun w => cown_any l[k].k l[k].v.ty l[k].v.n l[k].v.x l[k].v.y l[k].v.s w)
      simp only [Int.toNat_natCast] at HC
      obtain ⟨c, hc⟩ : ∃ c, c = l[k] := ⟨_, rfl⟩
      rw [← hc] at f0 f1 f2 f3 f4 f5 HT HC
      clear hc hx
      go_wp2_with (first
        | (go_at_call 52; refine (HC.out _).mono ?_; rintro e w1 ⟨rfl, hb1⟩; have HB1 := Hid.mk' hb1; have hz1' := hb1.size; clear hb1)
        | (at_builtin; refine wpList_append_own _ rfl _ _ 71 rfl w.heap.size 124 i0 _ 5 56 Tryz.underlying71 hi hz0 hz1 hz2 rfl (by decide) _ _ _ rfl ((owns_ext hown.out HB1.out).alloc _) ⟨_, 0, none⟩ 1 1 c.pc rfl rfl ?c1 ?c2 ?c3 ?c4 ?c5 ?_))
      case c1 => exact cells_new _ #[.int .u8 c.k, .int .u8 c.v.ty, .int .i64 c.v.n, .complex .f64 c.v.x c.v.y, .string c.v.s] _
      case c2 => intro u hu; simp [K.pc] at hu; rcases hu with rfl | rfl | rfl | rfl | rfl <;> rfl
      case c3 => unfold maxLen; omega
      case c4 => omega
      case c5 => have := (hE.out.trans HB1.out).size; simp; omega
      · intro v' w2 hown' hgrow _
        have HE2 := Hid.mk' (((hE.out.trans HB1.out).alloc _).grown ((owns_ext hown.out HB1.out).alloc _) hgrow)
        have HO2 := Hid.mk' hown'
        clear hown' hgrow
        go_wp2
        go_roundw
        case rel => exact ⟨k + 1, by omega, by go_num, Hid.mk' (by rw [HT.out]; exact HO2.out), HE2⟩
        case measure => simp [intOf]; omega
    · have hkk : k = l.length := by omega
      subst hkk
      rw [show l.length = (l.map K.pc).length by simp, List.take_length] at hown
      rw [List.length_map] at hown
      obtain ⟨a', c', rfl⟩ := owns_shape hown.out
      go_wp2
      go_ret
      exact ⟨a', c', rfl, hown.out, hE.out⟩

theorem ownK_at (l : List K) (a : Option Addr) (cap : Nat) (w : World) (hl : Sl w (.slice a l.length cap) 6 (l.map K.rc)) (hlen : l.length ≤ 1000) (h0 : l.length ≠ 0) :
    Calls Tryz.prog 24 #[.slice a l.length cap] w fun e w' => ∃ g cap', e = .returned (.slice (some ⟨g, 0, none⟩) l.length cap') ∧ l.length ≤ cap' ∧ w.heap.size ≤ g ∧ RowAt w' g l ∧ Ext w w' := by
  refine (ownK_own l a cap w hl hlen).mono ?_
  rintro e w' ⟨a', c', rfl, ho, hE⟩
  rcases ho.2 with ⟨-, h1⟩ | ⟨g, cap', cur, hv, hg, -, hn, -⟩
  · exact absurd h1 h0
  · simp only [Value.slice.injEq] at hv
    obtain ⟨rfl, -, rfl⟩ := hv
    exact ⟨g, _, rfl, hn, hg, RowAt.of_owns ho rfl, hE⟩

theorem RowAt.setV {W : World} {g : Nat} {ks : List K} (h : RowAt W g ks) {i : Nat} (hi : i < ks.length) (v : V) :
    RowAt ((((W.setCell ⟨g, i * 5 + 1, none⟩ (.int .u8 v.ty)).setCell ⟨g, i * 5 + 2, none⟩ (.int .i64 v.n)).setCell ⟨g, i * 5 + 3, none⟩ (.complex .f64 v.x v.y)).setCell ⟨g, i * 5 + 4, none⟩ (.string v.s)) g (ks.set i ⟨ks[i].k, v⟩) := by
  obtain ⟨cs, hb, hs, hx⟩ := h
  refine ⟨_, (((hb.set _ _).set _ _).set _ _).set _ _, by simpa using hs, fun q hq j hj => ?_⟩
  have hq2 : q < ks.length := by rwa [List.length_set] at hq
  simp only [Array.getElem?_setIfInBounds, Array.size_setIfInBounds]
  by_cases e : q = i
  · subst e
    rw [List.getElem_set_self]
    have h0 := hx q hq2 0 (by omega)
    have : j = 0 ∨ j = 1 ∨ j = 2 ∨ j = 3 ∨ j = 4 := by omega
    rcases this with rfl | rfl | rfl | rfl | rfl
    · rw [if_neg (by omega), if_neg (by omega), if_neg (by omega), if_neg (by omega), h0]; rfl
    all_goals
      simp [K.pc]
      (try omega)
  · rw [List.getElem_set_ne (Ne.symm e), ← hx q hq2 j hj]
    rw [if_neg (by omega), if_neg (by omega), if_neg (by omega), if_neg (by omega)]

end Go.Proofs.YtdgalkljngigeaaGreat

/-
The awake of the laws of tables.
-/
namespace Go.Proofs.YtdgalkljngigeaaGreat
open Go.RowKit

theorem aw22_el {W : World} {g c1 : Nat} (h : Sl W (.slice (some ⟨g, 0, none⟩) 1 c1) 5 (aw22r.map K.pc)) : EL.at 5 K.pc W ⟨aw22e, none, 0, some ⟨g, 0, none⟩, c1, none, 0⟩ := ⟨nilRowP _, h, ⟨none, 0, rfl, .inl rfl⟩⟩
theorem aw22_es1 {W : World} {g c1 : Nat} (h : Sl W (.slice (some ⟨g, 0, none⟩) 1 c1) 5 (aw22r.map K.pc)) : ES 5 K.pc (W.alloc (.cells #[.int .u8 4, .int .u32 1, .int .u32 1, .int .u8 0, .slice none 0 0, .slice (some ⟨g, 0, none⟩) 1 c1, .slice none 0 0, .int .u8 0] 103)) (.slice (some ⟨W.heap.size, 0, none⟩) 1 1) [(⟨aw22e, none, 0, some ⟨g, 0, none⟩, c1, none, 0⟩ : EL)] :=
  ⟨Sl.new W #[.int .u8 4, .int .u32 1, .int .u32 1, .int .u8 0, .slice none 0 0, .slice (some ⟨g, 0, none⟩) 1 c1, .slice none 0 0, .int .u8 0] 103 8 1 1 _ rfl (EL.len _) rfl, fun x hx => by
    obtain rfl : x = (⟨aw22e, none, 0, some ⟨g, 0, none⟩, c1, none, 0⟩ : EL) := by simpa using hx
    exact aw22_el (h.ext ((Ext.refl _).alloc _))⟩
theorem aw22_es2 {W : World} {g c1 : Nat} (h : Sl W (.slice (some ⟨g, 0, none⟩) 1 c1) 5 (aw22r.map K.pc)) : ES 5 K.pc (W.alloc (.cells #[.int .u8 4, .int .u32 1, .int .u32 1, .int .u8 0, .slice none 0 0, .slice (some ⟨g, 0, none⟩) 1 c1, .slice none 0 0, .int .u8 0, .int .u8 4, .int .u32 1, .int .u32 1, .int .u8 0, .slice none 0 0, .slice (some ⟨g, 0, none⟩) 1 c1, .slice none 0 0, .int .u8 0] 103)) (.slice (some ⟨W.heap.size, 0, none⟩) 2 2) [(⟨aw22e, none, 0, some ⟨g, 0, none⟩, c1, none, 0⟩ : EL), (⟨aw22e, none, 0, some ⟨g, 0, none⟩, c1, none, 0⟩ : EL)] :=
  ⟨Sl.new W #[.int .u8 4, .int .u32 1, .int .u32 1, .int .u8 0, .slice none 0 0, .slice (some ⟨g, 0, none⟩) 1 c1, .slice none 0 0, .int .u8 0, .int .u8 4, .int .u32 1, .int .u32 1, .int .u8 0, .slice none 0 0, .slice (some ⟨g, 0, none⟩) 1 c1, .slice none 0 0, .int .u8 0] 103 8 2 2 _ rfl (EL.len _) rfl, fun x hx => by
    obtain rfl : x = (⟨aw22e, none, 0, some ⟨g, 0, none⟩, c1, none, 0⟩ : EL) := by simpa using hx
    exact aw22_el (h.ext ((Ext.refl _).alloc _))⟩
theorem aw22_all {g c1 : Nat} {l : List EL} (hl : ∀ x ∈ l, x = (⟨aw22e, none, 0, some ⟨g, 0, none⟩, c1, none, 0⟩ : EL)) : (∀ e ∈ l, e.e.small) ∧ ∀ e ∈ l, e.e.wk := ⟨fun e he => by rw [hl e he]; exact aw22_small, fun e he => by rw [hl e he]; exact aw22_wk⟩
theorem aw22_len0 : lenT [aw22] T0 = 0 := rfl
theorem aw22_len1 : lenT [aw22] (T0.put 1 1 [aw22r]) = 1 := by decide
theorem Sl.bs {W W' : World} {N G : Nat} {ps : List RR} {T : Tb} {v : Value} {l : List K} (h : Sl W v 5 (l.map K.pc)) (hb : Bs W N G ps T) (hk : Kp (fun x => x = G) W W') : Sl W' v 5 (l.map K.pc) := by
  obtain ⟨cat, cv, m, hat, -, -⟩ := hb
  refine h.base hat hk (by omega) (fun xs hx => ?_)
  obtain ⟨q, -, rfl⟩ := List.mem_map.1 hx
  exact ⟨_, rfl, rfl⟩
theorem T0_ok (n : Nat) : TbOk T0 n := ⟨fun _ _ => Nat.zero_le _, fun _ _ x hx => by cases hx⟩

set_option maxRecDepth 100000 in set_option maxHeartbeats 8000000 in
theorem awake22_any (w : World) : Calls Tryz.prog 13 #[] w fun e w' => e = .returned (.bool true) ∧ Ext w w' := by
  have HOF := Hid.mk' (cof_any [⟨aw22, some ⟨w.heap.size, 0, none⟩, 1⟩] (some ⟨(((w.alloc (.cells #[.string ⟨#[97]⟩, .int .u8 2, .bool true] 115)).alloc (.cells #[.int .u32 1, .int .u32 1, .string ⟨#[116]⟩, .int .u8 1, .slice (some ⟨w.heap.size, 0, none⟩) 1 1] 99))).heap.size, 0, none⟩) 1 ((((w.alloc (.cells #[.string ⟨#[97]⟩, .int .u8 2, .bool true] 115)).alloc (.cells #[.int .u32 1, .int .u32 1, .string ⟨#[116]⟩, .int .u8 1, .slice (some ⟨w.heap.size, 0, none⟩) 1 1] 99)).alloc (.cells #[.int .u32 1, .int .u32 1, .string ⟨#[116]⟩, .int .u8 1, .slice (some ⟨w.heap.size, 0, none⟩) 1 1] 99)))
    ⟨Sl.new (((w.alloc (.cells #[.string ⟨#[97]⟩, .int .u8 2, .bool true] 115)).alloc (.cells #[.int .u32 1, .int .u32 1, .string ⟨#[116]⟩, .int .u8 1, .slice (some ⟨w.heap.size, 0, none⟩) 1 1] 99))) #[.int .u32 1, .int .u32 1, .string ⟨#[116]⟩, .int .u8 1, .slice (some ⟨w.heap.size, 0, none⟩) 1 1] 99 5 1 1 _ rfl (RR.len _) rfl, fun p hp => by simp at hp; subst hp; exact (((Sl.new w #[.string ⟨#[97]⟩, .int .u8 2, .bool true] 115 3 1 1 [[.string ⟨#[97]⟩, .int .u8 2, .bool true]] rfl (by intro xs hxs; simp at hxs; subst hxs; rfl) rfl)).ext (((Ext.refl _).alloc _).alloc _))⟩
    (fun p hp => by simp at hp; subst hp; exact Nat.le_refl _) (fun p hp => by simp at hp; subst hp; exact aw22_wb) (by simp))
  unfold COfPost at HOF
  simp only [World.size_alloc, List.map_cons, List.map_nil, List.length_cons, List.length_nil, Nat.zero_add, aw22_ofE, aw22_ofPl, aw22_up] at HOF
  go_enter Tryz.func13, Tryz.ntmps13
  go_upto_region 3 with (go_at_call 31; refine HOF.out.mono ?_; rintro e w1 ⟨pv, rfl, h1, -, hb1⟩; obtain ⟨rfl, c, qs, hc, hq⟩ := h1 (by first | exact rfl | exact trivial); have HC := Hid.mk' hc; have HQ := Hid.mk' hq; have HX1 := Hid.mk' (((Blk.new' (w := (w.alloc (.cells #[.string ⟨#[97]⟩, .int .u8 2, .bool true] 115))) (b := w.heap.size + 1) #[.int .u32 1, .int .u32 1, .string ⟨#[116]⟩, .int .u8 1, .slice (some ⟨w.heap.size, 0, none⟩) 1 1] 99 (by simp)).alloc (.cells #[.int .u32 1, .int .u32 1, .string ⟨#[116]⟩, .int .u8 1, .slice (some ⟨w.heap.size, 0, none⟩) 1 1] 99)).ext hb1); have HB1 := Hid.mk' (show Ext w w1 from ((((Ext.refl w).alloc _).alloc _).alloc _).trans hb1); clear h1 hc hq hb1)
  have HNW := Hid.mk' (fun W (h : Ext w1 W) => tnew_any _ _ c qs W (HC.out.ext h) (fun p hp => by
    have h1 : p.r ∈ qs.map RR.r := List.mem_map_of_mem hp
    rw [HQ.out] at h1
    have h2 : p.r = aw22 := by simpa using h1
    rw [h2]; exact ⟨⟨by decide, by decide⟩, ⟨by decide, by decide⟩⟩))
  clear HOF
  go_upto_region 6 with (go_at_call 9; refine (HNW.out _ (Ext.refl _)).mono ?_; rintro e w2 ⟨G, qs2, rfl, hG, hbs, hq2, hb2⟩; have HBS := Hid.mk' hbs; have HQ2 := Hid.mk' (hq2.trans HQ.out); have HX2 := Hid.mk' (HX1.out.ext hb2); have HB2 := Hid.mk' (HB1.out.trans hb2); have HGN := Hid.mk' hG; clear hbs hq2 hb2 hG)
  have HOW := Hid.mk' (ownK_at [⟨2, V.zero⟩] (some ⟨w2.heap.size, 0, none⟩) 1 (w2.alloc (.cells #[.int .u8 2, .int .u8 0, .int .i64 0, .int .u64 0, .int .u64 0, .string ⟨#[]⟩] 119)) (Sl.new w2 #[.int .u8 2, .int .u8 0, .int .i64 0, .int .u64 0, .int .u64 0, .string ⟨#[]⟩] 119 6 1 1 _ rfl (by intro xs hxs; simp at hxs; subst hxs; rfl) rfl) (by decide) (by decide))
  simp only [List.length_cons, List.length_nil, Nat.zero_add] at HOW
  have HB1z := Hid.mk' HB1.out.size
  clear HNW HC HX1 HB1
  go_upto_region 7 with (go_at_call 24; refine HOW.out.mono ?_; rintro e w3 ⟨g, c1, rfl, hc1, hg, hr, hb3⟩; have HR := Hid.mk' hr; have HGL := Hid.mk' hg; have HE3 := Hid.mk' (show Ext w2 w3 from ((Ext.refl w2).alloc _).trans hb3); have HC1 := Hid.mk' hc1; clear hb3 hg hc1)
  have hgl := HR.out.lt
  have hgf := HR.out.frozen
  obtain ⟨q0, q1, q2, q3, q4⟩ := HR.out.cells (i := 0) (by decide)
  simp [V.zero] at q0 q1 q2 q3 q4
  have hgz : w2.heap.size ≤ g := by have := HGL.out; simp at this; omega
  clear HOW hr
  go_upto_region 8 with (fail)
  have HR4 := Hid.mk' (RowAt.setV HR.out (i := 0) (by decide) ⟨2, 1, 0, 0, ⟨#[]⟩⟩)
  have HE4 := Hid.mk' ((((HE3.out.setCell (p := ⟨g, 1, none⟩) hgz (.int .u8 2)).setCell (p := ⟨g, 2, none⟩) hgz (.int .i64 1)).setCell (p := ⟨g, 3, none⟩) hgz (.complex .f64 0 0)).setCell (p := ⟨g, 4, none⟩) hgz (.string ⟨#[]⟩))
  obtain ⟨w4, hw4⟩ : ∃ w4, w4 = (((w3.setCell ⟨g, 1, none⟩ (.int .u8 2)).setCell ⟨g, 2, none⟩ (.int .i64 1)).setCell ⟨g, 3, none⟩ (.complex .f64 0 0)).setCell ⟨g, 4, none⟩ (.string ⟨#[]⟩) := ⟨_, rfl⟩
  change Hid (RowAt ((((w3.setCell ⟨g, 1, none⟩ (.int .u8 2)).setCell ⟨g, 2, none⟩ (.int .i64 1)).setCell ⟨g, 3, none⟩ (.complex .f64 0 0)).setCell ⟨g, 4, none⟩ (.string ⟨#[]⟩)) g aw22r) at HR4
  rw [← hw4] at HR4 HE4 ⊢
  clear hw4 hgl hgf q0 q1 q2 q3 q4 hgz HR HE3
  have gx := (HX2.out.ext HE4.out).cell
  have zx := (HX2.out.ext HE4.out).lt
  have HSL := Hid.mk' (HR4.out.sl c1)
  have HBS4 := Hid.mk' (HBS.out.ext HE4.out)
  clear HR4 HBS
  go_upto_region 9 with (fail)
  have HB32 : Hid (∀ p ∈ qs2, B32 p.r.oid ∧ B32 p.r.ver) := Hid.mk' (fun p hp => by
    have h1 : p.r ∈ qs2.map RR.r := List.mem_map_of_mem hp
    rw [HQ2.out] at h1
    have h2 : p.r = aw22 := by simpa using h1
    rw [h2]; exact ⟨⟨by decide, by decide⟩, ⟨by decide, by decide⟩⟩)
  have HAP2 := Hid.mk' (fun W (h : Ext w4 W) => apply_any ⟨1, 0, [(⟨aw22e, none, 0, some ⟨g, 0, none⟩, c1, none, 0⟩ : EL), (⟨aw22e, none, 0, some ⟨g, 0, none⟩, c1, none, 0⟩ : EL)], some ⟨W.heap.size, 0, none⟩, 2⟩ _ G 0 qs2 T0 (W.alloc (.cells #[.int .u8 4, .int .u32 1, .int .u32 1, .int .u8 0, .slice none 0 0, .slice (some ⟨g, 0, none⟩) 1 c1, .slice none 0 0, .int .u8 0, .int .u8 4, .int .u32 1, .int .u32 1, .int .u8 0, .slice none 0 0, .slice (some ⟨g, 0, none⟩) 1 c1, .slice none 0 0, .int .u8 0] 103)) (HBS4.out.ext (h.alloc _)) HB32.out (T0_ok 0) (aw22_es2 (HSL.out.ext h)) (by show 0 + 2 ≤ 1000; omega) (aw22_all (g := g) (c1 := c1) (by simp)).1 (aw22_all (g := g) (c1 := c1) (by simp)).2)
  unfold ApPost TL.t TL.agg at HAP2
  simp only [List.map_cons, List.map_nil, List.length_cons, List.length_nil, Nat.zero_add, Nat.reduceAdd, HQ2.out, aw22_two.1, aw22_two.2.1, aw22_two.2.2] at HAP2
  have HE := Hid.mk' (Blk.new' (w := w4) (b := w4.heap.size) #[.int .u8 4, .int .u32 1, .int .u32 1, .int .u8 0, .slice none 0 0, .slice (some ⟨g, 0, none⟩) 1 c1, .slice none 0 0, .int .u8 0] 103 rfl)
  clear gx zx
  go_upto_region 11 with (fail)
  have HE5 := Hid.mk' (show Ext w4 ((w4.alloc (.cells #[.int .u8 4, .int .u32 1, .int .u32 1, .int .u8 0, .slice none 0 0, .slice (some ⟨g, 0, none⟩) 1 c1, .slice none 0 0, .int .u8 0] 103))) by exact eX)
  obtain ⟨w5, hw5⟩ : ∃ w5, w5 = (w4.alloc (.cells #[.int .u8 4, .int .u32 1, .int .u32 1, .int .u8 0, .slice none 0 0, .slice (some ⟨g, 0, none⟩) 1 c1, .slice none 0 0, .int .u8 0] 103)) := ⟨_, rfl⟩
  rw [← hw5] at HE HE5 ⊢
  clear hw5
  obtain ⟨E0, hE0⟩ : ∃ E0, E0 = w4.heap.size := ⟨_, rfl⟩
  have HE0 := Hid.mk' (show E0 ≠ G from by have := HBS4.out.lt; omega)
  rw [← hE0] at HE ⊢
  clear hE0
  have gE := HE.out.cell
  have zE := HE.out.lt
  have HAP2 := Hid.mk' (HAP2.out _ HE5.out)
  go_upto_region 12 with (go_at_call 12; refine HAP2.out.mono ?_; rintro e w6 ⟨rfl, hbs6, hk6⟩; have HBS6 := Hid.mk' hbs6; have HK6 := Hid.mk' hk6; clear hbs6 hk6)
  have HX6 := Hid.mk' ((HE.out.alloc (.cells #[.int .u8 4, .int .u32 1, .int .u32 1, .int .u8 0, .slice none 0 0, .slice (some ⟨g, 0, none⟩) 1 c1, .slice none 0 0, .int .u8 0, .int .u8 4, .int .u32 1, .int .u32 1, .int .u8 0, .slice none 0 0, .slice (some ⟨g, 0, none⟩) 1 c1, .slice none 0 0, .int .u8 0] 103)).kp HK6.out HE0.out)
  have HSL6 := Hid.mk' ((HSL.out.ext (HE5.out.alloc (.cells #[.int .u8 4, .int .u32 1, .int .u32 1, .int .u8 0, .slice none 0 0, .slice (some ⟨g, 0, none⟩) 1 c1, .slice none 0 0, .int .u8 0, .int .u8 4, .int .u32 1, .int .u32 1, .int .u8 0, .slice none 0 0, .slice (some ⟨g, 0, none⟩) 1 c1, .slice none 0 0, .int .u8 0] 103))).bs (HBS4.out.ext (HE5.out.alloc _)) HK6.out)
  have HEW6 := Hid.mk' (Kp.ext (show Ext w (w5.alloc (.cells #[.int .u8 4, .int .u32 1, .int .u32 1, .int .u8 0, .slice none 0 0, .slice (some ⟨g, 0, none⟩) 1 c1, .slice none 0 0, .int .u8 0, .int .u8 4, .int .u32 1, .int .u32 1, .int .u8 0, .slice none 0 0, .slice (some ⟨g, 0, none⟩) 1 c1, .slice none 0 0, .int .u8 0] 103)) from ((HB2.out.trans HE4.out).trans HE5.out).alloc _) (fun x hx _ => by
    have h1 : x = G := hx
    have h2 := HB1z.out
    have := HGN.out
    omega) HK6.out)
  have HLN := Hid.mk' (blen_any _ G qs2 T0 w6 HBS6.out HB32.out (by rw [HQ2.out, aw22_len0]; omega))
  rw [HQ2.out, aw22_len0] at HLN
  clear HAP2 HSL HBS4 HK6 HE HX2 HB2 HE4 HE5 gE zE
  go_upto_region 13 with (go_at_call 11; refine HLN.out.mono ?_; rintro e w7 ⟨rfl, hb7⟩; have HB7 := Hid.mk' hb7; clear hb7)
  have HX7 := Hid.mk' (HX6.out.ext HB7.out)
  have gE := HX7.out.cell
  have zE := HX7.out.lt
  have HAP1 := Hid.mk' (apply_any ⟨1, 0, [(⟨aw22e, none, 0, some ⟨g, 0, none⟩, c1, none, 0⟩ : EL)], some ⟨w7.heap.size, 0, none⟩, 1⟩ _ G 0 qs2 T0 (w7.alloc (.cells #[.int .u8 4, .int .u32 1, .int .u32 1, .int .u8 0, .slice none 0 0, .slice (some ⟨g, 0, none⟩) 1 c1, .slice none 0 0, .int .u8 0] 103)) (HBS6.out.ext (HB7.out.alloc _)) HB32.out (T0_ok 0) (aw22_es1 (HSL6.out.ext HB7.out)) (by show 0 + 1 ≤ 1000; omega) (aw22_all (g := g) (c1 := c1) (by simp)).1 (aw22_all (g := g) (c1 := c1) (by simp)).2)
  unfold ApPost TL.t TL.agg at HAP1
  simp only [List.map_cons, List.map_nil, List.length_cons, List.length_nil, Nat.zero_add, HQ2.out, aw22_one.1, aw22_one.2.1, aw22_one.2.2] at HAP1
  clear HLN HX6 HSL6 HBS6
  go_upto_region 14 with (go_at_call 12; refine HAP1.out.mono ?_; rintro e w8 ⟨rfl, hbs8, hk8⟩; have HBS8 := Hid.mk' hbs8; have HK8 := Hid.mk' hk8; clear hbs8 hk8)
  have HEW8 := Hid.mk' (Kp.ext (show Ext w (w7.alloc (.cells #[.int .u8 4, .int .u32 1, .int .u32 1, .int .u8 0, .slice none 0 0, .slice (some ⟨g, 0, none⟩) 1 c1, .slice none 0 0, .int .u8 0] 103)) from (HEW6.out.trans HB7.out).alloc _) (fun x hx _ => by
    have h1 : x = G := hx
    have h2 := HB1z.out
    have := HGN.out
    omega) HK8.out)
  have HLN := Hid.mk' (blen_any _ G qs2 _ w8 HBS8.out HB32.out (by rw [HQ2.out, aw22_len1]; omega))
  rw [HQ2.out, aw22_len1] at HLN
  clear HAP1 HK8 HX7 HBS8 gE zE
  go_wp2_with (go_at_call 11; refine HLN.out.mono ?_; rintro e w9 ⟨rfl, hb9⟩; have HB9 := Hid.mk' hb9; clear hb9)
  go_ret
  exact ⟨rfl, HEW8.out.trans HB9.out⟩

end Go.Proofs.YtdgalkljngigeaaGreat

/-
The catalog that relations make: what each of its relations' numbers is within; each is found.
-/
namespace Go.Proofs.YtdgalkljngigeaaGreat
open Go.RowKit

theorem ofUp_b32 {ps qs : List RR} {n : Nat} (h : qs.map RR.r = ofUp (ps.map RR.r) n) (hB : ∀ p ∈ ps, B32 p.r.oid ∧ B32 p.r.ver) : ∀ p ∈ qs, B32 p.r.oid ∧ B32 p.r.ver := fun p hp => by
  have h1 : p.r ∈ qs.map RR.r := List.mem_map_of_mem hp
  rw [h, ← upP_r] at h1
  obtain ⟨q, h2, h3⟩ := List.mem_map.1 h1
  rw [← h3]
  exact hB q (upP_mem h2)
theorem b32_of {ps qs : List RR} (h : qs.map RR.r = ps.map RR.r) (hB : ∀ p ∈ ps, B32 p.r.oid ∧ B32 p.r.ver) : ∀ p ∈ qs, B32 p.r.oid ∧ B32 p.r.ver := fun p hp => by
  have h1 : p.r ∈ qs.map RR.r := List.mem_map_of_mem hp
  rw [h] at h1
  obtain ⟨q, h2, h3⟩ := List.mem_map.1 h1
  rw [← h3]
  exact hB q h2
theorem ofUp_get {ps : List RR} (h : ofE (ps.map RR.r) = 0) {p : RR} (hp : p ∈ ps) : getR p.r.oid p.r.ver (ofUp (ps.map RR.r) ps.length) = some p.r := by
  have h1 : ∀ j, j < (ps.map RR.r).length → ofAt (ps.map RR.r) j = 0 := firstE_all h
  have h2 : p.r ∈ ofUp (ps.map RR.r) ps.length := by
    rw [(ofUp_mem h1 ps.length (by rw [List.length_map]; exact Nat.le_refl _)).1, show ps.length = (ps.map RR.r).length by rw [List.length_map], List.take_length]
    exact List.mem_map_of_mem hp
  obtain ⟨i, hi, he⟩ := List.getElem_of_mem h2
  rw [← he]
  exact (ofUp_ok _ _).srt.get_at hi ⟨rfl, rfl⟩

end Go.Proofs.YtdgalkljngigeaaGreat

/-
Transactions of the arguments that are not great, and their copies: they are small.
-/
namespace Go.Proofs.YtdgalkljngigeaaGreat
open Go.RowKit

theorem Lit.ok {ps : List RR} {ts : List TL} (h : Lit ps ts) : ts.length ≤ 1000 ∧ (∀ t ∈ ts, t.es.length ≤ 1000) ∧ (∀ t ∈ ts, ∀ e ∈ t.es, e.e.small) ∧ ∀ t ∈ ts, ∀ e ∈ t.es, e.e.rs.length ≤ 1000 := by
  refine ⟨by have := h.t; omega, fun t ht => ?_, fun t ht e he => ?_, fun t ht e he => by have := (h.e t ht e he).r; omega⟩
  · obtain ⟨i, hi, rfl⟩ := List.getElem_of_mem ht
    have h1 := manyT_succ hi
    have h2 := manyT_le ts (i + 1)
    have h3 := h.es
    omega
  · have h1 := h.e t ht e he
    exact ⟨by have := h1.b; omega, by have := h1.a; omega, by have := h1.r; omega⟩

theorem OwnT.sm {W : World} {N : Nat} {v : Value} {ts qs : List TL} (ho : OwnT W N (ts.map TL.t) v qs) (h1 : ∀ t ∈ ts, t.es.length ≤ 1000) (h2 : ∀ t ∈ ts, ∀ e ∈ t.es, e.e.small) : (∀ t ∈ qs, t.es.length ≤ 1000) ∧ ∀ t ∈ qs, ∀ e ∈ t.es, e.e.small := by
  have h3 : ∀ t ∈ qs, ∃ t2 ∈ ts, t2.es.map EL.e = t.es.map EL.e := fun t ht => by
    have h4 : t.t ∈ ts.map TL.t := by rw [← ho.t]; exact List.mem_map_of_mem ht
    obtain ⟨t2, h5, h6⟩ := List.mem_map.1 h4
    exact ⟨t2, h5, congrArg Tx.es h6⟩
  refine ⟨fun t ht => ?_, fun t ht e he => ?_⟩
  · obtain ⟨t2, h5, h6⟩ := h3 t ht
    have := congrArg List.length h6
    rw [List.length_map, List.length_map] at this
    have := h1 t2 h5
    omega
  · obtain ⟨t2, h5, h6⟩ := h3 t ht
    have h7 : e.e ∈ t2.es.map EL.e := by rw [h6]; exact List.mem_map_of_mem he
    obtain ⟨e2, h8, h9⟩ := List.mem_map.1 h7
    rw [← h9]; exact h2 t2 h5 e2 h8
theorem OwnT.wk {W : World} {N : Nat} {v : Value} {ts qs : List TL} (ho : OwnT W N (ts.map TL.t) v qs) (h2 : ∀ t ∈ ts, ∀ e ∈ t.es, e.e.wk) : ∀ t ∈ qs, ∀ e ∈ t.es, e.e.wk := by
  intro t ht e he
  have h4 : t.t ∈ ts.map TL.t := by rw [← ho.t]; exact List.mem_map_of_mem ht
  obtain ⟨t2, h5, h6⟩ := List.mem_map.1 h4
  have h7 : e.e ∈ t2.es.map EL.e := by rw [show t2.es.map EL.e = t.es.map EL.e from congrArg Tx.es h6]; exact List.mem_map_of_mem he
  obtain ⟨e2, h8, h9⟩ := List.mem_map.1 h7
  rw [← h9]; exact h2 t2 h5 e2 h8

end Go.Proofs.YtdgalkljngigeaaGreat

/-
The walk of TableRuns.
-/
namespace Go.Proofs.YtdgalkljngigeaaGreat
open Go.RowKit Go.Maps

theorem findP_mem {L : List Rl} {T : Tb} {o v : Int} {key l : List K} (h : findP L T o v key = some l) : l ∈ T o v := by
  unfold findP at h
  split at h
  · cases h
  · split at h
    · cases h
    · split at h
      · cases h
      · rename_i r hr hc hi
        have h1 := idxI_lt (fun i => decide ((i : Int) ≠ -1) && keyQ r.cols ((T o v).getD i []) key) (T o v).length
        change -1 ≤ byKeyI r.cols (T o v) key (-1) ∧ byKeyI r.cols (T o v) key (-1) < ((T o v).length : Int) at h1
        have h2 : (byKeyI r.cols (T o v) key (-1)).toNat < (T o v).length := by omega
        rw [List.getD_eq_getElem?_getD, List.getElem?_eq_getElem h2] at h
        injection h with h
        rw [← h]
        exact List.getElem_mem h2

set_option maxRecDepth 100000 in set_option maxHeartbeats 8000000 in
theorem tableruns_law (ps : List RR) (a : Option Addr) (cap : Nat) (ts : List TL) (ta : Option Addr) (tc : Nat) (ko kv : Int) (key : List K) (ka : Option Addr) (kc : Nat) (w : World) (hl : RL w (.slice a ps.length cap) ps) (hb : ∀ p ∈ ps, p.r.wb) (hlen : ps.length ≤ 9223372036854775807) (hB : ∀ p ∈ ps, B32 p.r.oid ∧ B32 p.r.ver) (ht : TS 6 K.rc w (.slice ta ts.length tc) ts) (hnt : ts.length ≤ 9223372036854775807) (hz : ∀ p ∈ ts, p.sz)
    (hkb : B32 ko ∧ B32 kv) (hk : Sl w (.slice ka key.length kc) 6 (key.map K.rc)) (hkn : key.length ≤ 9223372036854775807) (hkw : ∀ c ∈ key, c.wk) :
    Calls Tryz.prog 4 #[.slice a ps.length cap, .slice ta ts.length tc, .agg #[.int .u32 ko, .int .u32 kv, .slice ka key.length kc]] w fun e w' => e = .returned (.bool true) ∧ Ext w w' := by
  have HB := Hid.mk' hb
  have HL := Hid.mk' hl
  have HT := Hid.mk' ht
  have HZ := Hid.mk' hz
  have HB32 := Hid.mk' hB
  have HKB := Hid.mk' hkb
  have HKS := Hid.mk' hk
  have HGR := Hid.mk' (fun W (h : Ext w W) => greatT_any ps ts a ta cap tc W (hl.ext h) (ht.ext h) hlen hnt hb hz)
  have HGK := Hid.mk' (fun W (h : Ext w W) => greatK_any key ka kc 0 0 ⟨#[]⟩ 0 [] none 0 W (hk.ext h) ⟨none, 0, rfl, .inl rfl⟩ hkn (by simp) (fun c hc => (hkw c hc).s) (by intro c hc; cases hc) (by decide))
  have HIN := Hid.mk' (fun W (h : Ext w W) => in16_any ps a cap W (hl.ext h) hb hlen)
  have HRO := Hid.mk' (fun W (h : Ext w W) => rof_any ps a cap W (hl.ext h) hb hlen)
  simp only [List.length_nil] at HGK
  clear hl hb ht hz hlen hnt hB hkb hk hkn hkw
  have HX1 := Hid.mk' (Blk.new w #[.int .u32 ko, .int .u32 kv, .slice ka key.length kc] 47)
  by_cases hA : ofE (ps.map RR.r) = 0
  case neg =>
    rw [decide_eq_false hA] at HIN
    clear hA HRO
    go_enter Tryz.func4, Tryz.ntmps4
    have gK := HX1.out.cell
    have zK := HX1.out.lt
    go_wp2_with (first
      | (go_at_call 6; refine (HGR.out _ (by exact eX)).mono ?_; rintro e w2 ⟨g, rfl, -, hb2⟩; have HB2 := Hid.mk' (show Ext w w2 by exact eX); clear gK zK; have gK := (HX1.out.ext hb2).cell; have zK := (HX1.out.ext hb2).lt; clear hb2; cases g)
      | (go_at_call 15; refine (HGK.out _ HB2.out).mono ?_; rintro e w2b ⟨g, rfl, -, hb2⟩; have HB2b := Hid.mk' (HB2.out.trans hb2); clear hb2; cases g)
      | (go_at_call 7; refine (HIN.out _ HB2b.out).mono ?_; rintro e w3 ⟨rfl, hb3⟩; have HB3 := Hid.mk' (HB2b.out.trans hb3); clear hb3))
    all_goals
      go_ret
      first | exact ⟨rfl, HB3.out⟩ | exact ⟨rfl, HB2b.out⟩ | exact ⟨rfl, HB2.out⟩
  rw [decide_eq_true hA] at HIN
  have HA := Hid.mk' hA
  clear hA
  go_enter Tryz.func4, Tryz.ntmps4
  have gK := HX1.out.cell
  have zK := HX1.out.lt
  go_upto_region 3 with (first
      | (go_at_call 6; refine (HGR.out _ (by exact eX)).mono ?_; rintro e w2 ⟨g, rfl, hg, hb2⟩; have HG := Hid.mk' hg; have HB2 := Hid.mk' (show Ext w w2 by exact eX); clear gK zK; have HX2 := Hid.mk' (HX1.out.ext hb2); have gK := HX2.out.cell; have zK := HX2.out.lt; clear hb2 hg; cases g)
      | (go_at_call 15; refine (HGK.out _ HB2.out).mono ?_; rintro e w2b ⟨g, rfl, hg, hb2⟩; have HGk := Hid.mk' hg; have HX2b := Hid.mk' (HX2.out.ext hb2); have HB2b := Hid.mk' (HB2.out.trans hb2); clear hb2 hg gK zK; cases g)
      | (go_at_call 7; refine (HIN.out _ HB2b.out).mono ?_; rintro e w3 ⟨rfl, hb3⟩; have HX3 := Hid.mk' (HX2b.out.ext hb3); have HB3 := Hid.mk' (HB2b.out.trans hb3); clear hb3))
  all_goals try (go_ret; first | exact ⟨rfl, HB3.out⟩ | exact ⟨rfl, HB2b.out⟩ | exact ⟨rfl, HB2.out⟩)
  have HLT := Hid.mk' (HG.out (by first | exact rfl | exact trivial))
  have HKL := Hid.mk' (HGk.out (by first | exact rfl | exact trivial)).2.2.1
  have hn70 : ps.length ≤ 1000 := by have := HLT.out.n; omega
  have HOW := Hid.mk' (fun W (h : Ext w W) => own16_any ps a cap W (HL.out.ext h) HB.out hn70 HA.out)
  unfold Own16Post at HOW
  clear HG HGk HGR HGK HIN hn70
  go_upto_region 6 with (go_at_call 8; refine (HOW.out _ HB3.out).mono ?_; rintro e w4 ⟨G0, c0, q0, rfl, hz0, hc0, hq0, hb4⟩; have HC0 := Hid.mk' hc0; have HQ0 := Hid.mk' hq0; have HB4 := Hid.mk' (HB3.out.trans hb4); have HX4 := Hid.mk' (HX3.out.ext hb4); clear hz0 hc0 hq0 hb4)
  have HBQ := Hid.mk' (ofUp_b32 HQ0.out HB32.out)
  have HN1 := Hid.mk' (fun W (h : Ext w4 W) => tnew_any _ _ c0 q0 W (HC0.out.ext h) HBQ.out)
  clear HOW HB3 HB2 HB2b HX2 HX2b HX3
  go_upto_region 9 with (go_at_call 9; refine (HN1.out _ (Ext.refl _)).mono ?_; rintro e w5 ⟨G, qx, rfl, hgx, hbx, hqx, hb5⟩; have HS5 := Hid.mk' hbx; have HQX := Hid.mk' hqx; have HB5 := Hid.mk' (HB4.out.trans hb5); have HX5 := Hid.mk' (HX4.out.ext hb5); have HGX := Hid.mk' hgx; clear hgx hbx hqx hb5)
  have HW0 := Hid.mk' (show w.heap.size < G by have := HGX.out; have := HX4.out.lt; omega)
  have HBX := Hid.mk' (b32_of HQX.out HBQ.out)
  obtain ⟨L, hL⟩ : ∃ L, L = ofUp (ps.map RR.r) ps.length := ⟨_, rfl⟩
  have HLX := Hid.mk' (show qx.map RR.r = L by rw [HQX.out, HQ0.out, hL])
  have HOKL := Hid.mk' (show CatOk L by rw [hL]; exact ofUp_ok _ _)
  obtain ⟨U, hU⟩ : ∃ U, U = upP ps ps.length := ⟨_, rfl⟩
  have HUL := Hid.mk' (show U.map RR.r = L by rw [hU, upP_r, hL])
  have HUB := Hid.mk' (show ∀ p ∈ U, p.r.wb from fun p hp => HB.out p (upP_mem (by rw [← hU]; exact hp)))
  have HROF : Hid (∀ W, Ext w W → Calls Tryz.prog 16 #[.slice a ps.length cap] W (fun e w' => ∃ a' c', e = .returned (.tuple #[.slice a' U.length c', .int .i64 (ofPl (ps.map RR.r) : Nat), .int .i64 0]) ∧ RL w' (.slice a' U.length c') U ∧ Ext W w')) := Hid.mk' (fun W h => (HRO.out W h).mono (by
    rintro e w' ⟨a', c', n, rfl, h1, -, h3⟩
    obtain ⟨rfl, h4⟩ := h1 HA.out
    rw [← hU] at h4
    exact ⟨a', c', by rw [HA.out, hU], h4, h3⟩))
  obtain ⟨PL, hPL⟩ : ∃ P : Nat, P = ofPl (ps.map RR.r) := ⟨_, rfl⟩
  rw [← hPL] at HROF
  have HRC := Hid.mk' (show RCat U from ⟨by rw [HUL.out]; exact HOKL.out, HUB.out⟩)
  have HU64 := Hid.mk' (show U.length ≤ 64 from by have h1 := HOKL.out.n64; rw [← HUL.out, List.length_map] at h1; exact h1)
  clear hL hU hPL HC0 HB4 HX4 HGX HBQ HN1 HQX HQ0 HA HRO HUB HB HB32
  go_upto_region 10 with (go_at_call 16; refine (HROF.out _ HB5.out).mono ?_; rintro e w6 ⟨ua, uc, rfl, hu6, hb6⟩; have HU6 := Hid.mk' hu6; have HS6 := Hid.mk' (HS5.out.ext hb6); have HX6 := Hid.mk' (HX5.out.ext hb6); have HB6 := Hid.mk' (HB5.out.trans hb6); clear hu6 hb6)
  have HN2 := Hid.mk' (fun W => rnew22_any U ua uc W (by have := HU64.out; omega))
  go_upto_region 11 with (go_at_call 17; refine (HN2.out _).mono ?_; rintro e w7 ⟨ra, rc, rfl, hr7, hb7⟩; have HR7 := Hid.mk' hr7; have HE7 := Hid.mk' hb7; clear hr7 hb7)
  obtain ⟨X, hX⟩ : ∃ X, X = w7.heap.size := ⟨_, rfl⟩
  obtain ⟨w8, hw8⟩ : ∃ W, W = w7.alloc (.cells #[.slice ua U.length uc, .slice ra U.length rc] 56) := ⟨_, rfl⟩
  have HE8 := Hid.mk' (show Ext w7 w8 by rw [hw8]; exact (Ext.refl w7).alloc _)
  have HY8 := Hid.mk' (show Blk w8 X #[.slice ua U.length uc, .slice ra U.length rc] 56 by rw [hw8, hX]; exact Blk.new _ _ _)
  have HXW := Hid.mk' (show w.heap.size < X ∧ G < X from ⟨by have h1 := HX6.out.lt; have h2 := HE7.out.size; omega, by have h1 := HS6.out.lt; have h2 := HE7.out.size; omega⟩)
  rw [← hX, ← hw8]
  clear hX hw8
  have HB8 := Hid.mk' ((HB6.out.trans HE7.out).trans HE8.out)
  have HX8 := Hid.mk' (HX6.out.ext (HE7.out.trans HE8.out))
  have HS8 := Hid.mk' (HS6.out.ext (HE7.out.trans HE8.out))
  have HU8 := Hid.mk' (HU6.out.ext (HE7.out.trans HE8.out))
  have HR8 := Hid.mk' (HR7.out.ext HE8.out)
  have HLA := Hid.mk' (HLT.out.ok)
  have HTX := Hid.mk' (fun W (h : Ext w W) => txs_any ts ta tc W (HT.out.ext h) HLA.out.1 HLA.out.2.1 HLA.out.2.2.1)
  clear HX1 HX6 HX5 HS5 HS6 HU6 HR7 HE7 HE8 HB5 HB6 HN2 HROF
  go_upto_region 12 with (go_at_call 10; refine (HTX.out _ HB8.out).mono ?_; rintro e w9 ⟨a5, c5, qs, rfl, ho5, hb5⟩; have HO5 := Hid.mk' ho5; have HE9 := Hid.mk' hb5; clear ho5 hb5)
  have HWK : Hid (∀ t ∈ ts, ∀ e ∈ t.es, e.e.wk) := Hid.mk' (fun t ht e he => by have h := (HZ.out t ht).e e he; exact ⟨h.sb, h.sa, h.old.1⟩)
  have HSM5 := Hid.mk' (HO5.out.sm HLA.out.2.1 HLA.out.2.2.1)
  have HWK5 := Hid.mk' (HO5.out.wk HWK.out)
  have hql : qs.length = ts.length := by have h := HO5.out.len; rwa [List.length_map] at h
  have HQL := Hid.mk' hql
  have HQT := Hid.mk' HO5.out.t
  have hlt60 : ts.length ≤ 60 := HLT.out.t
  have HM6 := Hid.mk' (fun k => Nat.le_trans (manyT_le ts k) HLT.out.es)
  have HSZ := Hid.mk' (show G < w8.heap.size ∧ X < w8.heap.size from ⟨HS8.out.lt, HY8.out.lt⟩)
  have HTQ := Hid.mk' (fun W (h : Kp (fun x => x = G ∨ x = X) w9 W) => (HO5.out.low h (fun x hx => .inl (by have := HSZ.out; rcases hx with hx | hx <;> omega)) : OwnT W w8.heap.size (ts.map TL.t) (.slice a5 ts.length c5) qs))
  have HEW9 := Hid.mk' (HB8.out.trans HE9.out)
  have HS9 := Hid.mk' (HS8.out.ext HE9.out)
  have HU9 := Hid.mk' (HU8.out.ext HE9.out)
  have HR9 := Hid.mk' (HR8.out.ext HE9.out)
  have HY9 := Hid.mk' (HY8.out.ext HE9.out)
  have HX9 := Hid.mk' (HX8.out.ext HE9.out)
  have HEG := Hid.mk' (fun W (h : Kp (fun x => x = G ∨ x = X) w9 W) => (Kp.ext HEW9.out (fun x hx _ => by have := HW0.out; have := HXW.out; rcases hx with hx | hx <;> omega) h : Ext w W))
  clear HS8 HU8 HR8 HY8 HX8 HTX HO5 hql HE9 HB8
  go_wp2
  go_loopg [14] ts.length (fun z i wr => ∃ (k : Nat) (T : Tb) (ra : Option Addr) (rc : Nat), z + k = ts.length ∧ i = .int .i64 k ∧ Hid (Bs wr w4.heap.size G qx T) ∧ Hid (RT wr (.slice ra U.length rc) U T) ∧ Hid (RL wr (.slice ua U.length uc) U) ∧ Hid (Blk wr X #[.slice ua U.length uc, .slice ra U.length rc] 56) ∧ Hid (TbIn L T) ∧ Hid (TbOk T (manyT ts k)) ∧ Hid (Kp (fun x => x = G ∨ x = X) w9 wr))
  case atStart => exact ⟨0, T0, ra, rc, by omega, rfl, HS9, HR9, HU9, HY9, Hid.mk' (TbIn.nil L), Hid.mk' (T0_ok _), Hid.mk' Kp.refl⟩
  case round =>
    obtain ⟨k, T, ra, rc, hzk, rfl, hM, hR, hU, hY, hI, hT, hK⟩ := hrel
    by_cases hlt : k < ts.length
    · have hlq : k < qs.length := by have := HQL.out; omega
      obtain ⟨b, o, rfl, hb1, hx1⟩ := (HTQ.out wr hK.out).ts.row.at_ (i := k) (by simpa using hlq)
      obtain ⟨f0, f1, f2⟩ := TL.at_ hlq hx1 hb1 (Ext.refl wr)
      have HXA := Hid.mk' ((HTQ.out wr hK.out).ts.sl _ (List.getElem_mem hlq))
      have HXS := Hid.mk' (HSM5.out.2 _ (List.getElem_mem hlq))
      have HXW5 := Hid.mk' (HWK5.out _ (List.getElem_mem hlq))
      have HXE := Hid.mk' (show qs[k].t = ts[k].t from by
          have h3 := congrArg (fun z => z[k]?) HQT.out
          simpa [hlq, hlt] using h3)
      have HXT := Hid.mk' (manyT_succ hlt)
      obtain ⟨x, hx⟩ : ∃ x, x = qs[k] := ⟨_, rfl⟩
      rw [← hx] at f0 f1 f2 HXA HXS HXW5 HXE
      clear hx hx1 hlq
      obtain ⟨y, hy⟩ : ∃ y, y = ts[k] := ⟨_, rfl⟩
      have HYA := Hid.mk' (fun W (h : Ext w W) => (show y.at 6 K.rc W from by rw [hy]; exact (HT.out.sl _ (List.getElem_mem hlt)).ext h))
      have HYS := Hid.mk' (show ∀ e ∈ y.es, e.e.small from by rw [hy]; exact HLA.out.2.2.1 _ (List.getElem_mem hlt))
      have HYW := Hid.mk' (show ∀ e ∈ y.es, e.e.wk from by rw [hy]; exact HWK.out _ (List.getElem_mem hlt))
      obtain ⟨tb, to_, htb, hb2, hx2⟩ := HT.out.row.at_ (i := k) (by simpa using hlt)
      have HYF := Hid.mk' (fun W (h : Ext w W) => (show _ ∧ tb < W.heap.size from ⟨TL.at_ hlt hx2 hb2 h, Nat.lt_of_lt_of_le hb2 h.size⟩))
      rw [← hy] at HXE HXT HYF
      subst htb
      clear hy hx2 hb2
      obtain ⟨xid, st, es, xa, xc⟩ := x
      obtain ⟨yid, yst, ys, ya, yc⟩ := y
      unfold TL.t at HXE
      simp only [Tx.mk.injEq] at HXE
      simp only at f0 f1 f2 HXS HXW5 HXT HYS HYW HYF
      obtain ⟨rfl, rfl, hes⟩ := HXE
      have hel : es.length = ys.length := by have h := congrArg List.length hes; simpa using h
      have HES := Hid.mk' hes
      have HEL := Hid.mk' hel
      have HN7 := Hid.mk' (HM6.out (k + 1))
      have HLTK := Hid.mk' hlt
      have i1 : (k : Int) < (ts.length : Int) := by omega
      have hd1 : decide (ts.length ≤ k) = false := decide_eq_false (by omega)
      have hd2 : decide ((ts.length : Int) ≤ (k : Int)) = false := decide_eq_false (by omega)
      have HAP := Hid.mk' (apply_any ⟨xid, st, es, xa, xc⟩ _ G (manyT ts k) qx T wr hM.out HBX.out hT.out HXA.out (by have := HXT.out; have := HN7.out; have := HEL.out; show manyT ts k + es.length ≤ 1000; omega) HXS.out HXW5.out)
      unfold ApPost TL.t TL.agg at HAP
      simp only [HLX.out] at HAP
      have HRA := Hid.mk' (fun W (h : Ext w W) (hu : RL W (.slice ua U.length uc) U) (hr : RT W (.slice ra U.length rc) U T) => rapply_any U ua uc ra rc ⟨xid, st, ys, ya, yc⟩ (manyT ts k) T W hu HRC.out hr hT.out (HYA.out W h) (by have := HXT.out; have := HN7.out; show manyT ts k + ys.length ≤ 1000; omega) HYS.out HYW.out)
      unfold RApPost TL.t TL.agg at HRA
      simp only [HUL.out, ← HES.out] at HRA
      have HI2 := Hid.mk' (hI.out.ap ⟨xid, st, es.map EL.e⟩)
      have HT2 := Hid.mk' (TbOk.ap hT.out L (t := ⟨xid, st, es.map EL.e⟩) (fun e he => by
        obtain ⟨z, hz, rfl⟩ := List.mem_map.1 he
        exact (HXS.out z hz).a))
      generalize apE L T ⟨xid, st, es.map EL.e⟩ = E at HAP HRA
      generalize apP L T ⟨xid, st, es.map EL.e⟩ = P at HAP HRA
      generalize apT L T ⟨xid, st, es.map EL.e⟩ = T2 at HAP HRA HI2 HT2
      simp only [List.length_map] at HT2
      clear hes hel
      go_upto_region 16 with (go_at_call 12; refine HAP.out.mono ?_; rintro e w10 ⟨rfl, hb10, hk10⟩; have HM10 := Hid.mk' hb10; have HK10 := Hid.mk' hk10; clear hb10 hk10)
      clear f0 f1 f2
      obtain ⟨cat, cv, m, hat, -⟩ := hM.out
      have HR10 := Hid.mk' (hR.out.base hat HK10.out)
      have HU10 := Hid.mk' (hU.out.base hat HK10.out)
      have HY10 := Hid.mk' (hY.out.kp HK10.out (show ¬ X = G by have := HXW.out; omega))
      have HKK := Hid.mk' (hK.out.trans HK10.out (fun x hx _ => .inl hx))
      have HE10 := Hid.mk' (HEG.out w10 HKK.out)
      have HRB := Hid.mk' (fun W (h : Ext w10 W) => HRA.out W (HE10.out.trans h) (HU10.out.ext h) (HR10.out.ext h))
      clear hat hR hU hY hK hM HK10 HRA HAP
      obtain ⟨⟨g0, g1, g2⟩, hbt⟩ := HYF.out w10 HE10.out
      have gY := HY10.out.cell
      have zY := HY10.out.lt
      go_cut [17, 18, 19] (fun p i j wx => ∃ X7 ra2 rc2, p = .pointer (some ⟨X7, 0, none⟩) ∧ i = .int .i64 P ∧ j = .int .i64 E ∧ Hid (Blk wx X7 #[.slice ua U.length uc, .slice ra2 U.length rc2] 56) ∧ Hid (RT wx (.slice ra2 U.length rc2) U T2) ∧ Hid (Ext w10 wx))
      case first =>
        have hA0 : Hid ((fun w' => Ext (w10) w' ∧ (∀ b o, b < (w10).heap.size → w'.cell? ⟨b, o, none⟩ = (w10).cell? ⟨b, o, none⟩) ∧ (∀ b o, b < (w10).heap.size → w'.frozen? ⟨b, o, none⟩ = (w10).frozen? ⟨b, o, none⟩)) w10.drew) := held_of (by exact eX)
        refine wp_region_head 13 (fun w' => Ext (w10) w' ∧ (∀ b o, b < (w10).heap.size → w'.cell? ⟨b, o, none⟩ = (w10).cell? ⟨b, o, none⟩) ∧ (∀ b o, b < (w10).heap.size → w'.frozen? ⟨b, o, none⟩ = (w10).frozen? ⟨b, o, none⟩)) (by kernel_rfl) (by decide) ?_
        refine HG.on 0 75 hA0.out ?_
        try simp only [Act.put, List.setIfInBounds_toArray, List.set_cons_zero, List.set_cons_succ]
        refine HG.on 1 76 hA0.out ?_
        try simp only [Act.put, List.setIfInBounds_toArray, List.set_cons_zero, List.set_cons_succ]
        refine HG.on 2 77 hA0.out ?_
        try simp only [Act.put, List.setIfInBounds_toArray, List.set_cons_zero, List.set_cons_succ]
        refine HG.on 3 78 hA0.out ?_
        try simp only [Act.put, List.setIfInBounds_toArray, List.set_cons_zero, List.set_cons_succ]
        refine HG.on 4 79 hA0.out ?_
        try simp only [Act.put, List.setIfInBounds_toArray, List.set_cons_zero, List.set_cons_succ]
        refine wpHd_two (i := 5) (j := 10) rfl rfl rfl rfl (by kernel_rfl) (fun KK hK => ?_) (fun KK hK => ?_)
        · go_simp
          refine (HRB.out _ (by exact eX)).mono ?_
          rintro e w11 ⟨ra2, rc2, rfl, hr11, hb11⟩
          have HR11 := Hid.mk' hr11
          have HB11 := Hid.mk' (show Ext w10 w11 by exact eX)
          refine hK.out _ _ (held_of HB11.out) (fun hA => ?_)
          clear hK KK hA hA0 hr11 hb11
          have hA0 : Hid ((fun w' => Ext (w10) w' ∧ (∀ b o, b < (w10).heap.size → w'.cell? ⟨b, o, none⟩ = (w10).cell? ⟨b, o, none⟩) ∧ (∀ b o, b < (w10).heap.size → w'.frozen? ⟨b, o, none⟩ = (w10).frozen? ⟨b, o, none⟩)) w11) := held_of HB11.out
          refine HG.on 6 74 hA0.out ?_
          try simp only [Act.put, List.setIfInBounds_toArray, List.set_cons_zero, List.set_cons_succ]
          refine HG.on 7 81 hA0.out ?_
          try simp only [Act.put, List.setIfInBounds_toArray, List.set_cons_zero, List.set_cons_succ]
          refine HG.on 8 82 hA0.out ?_
          try simp only [Act.put, List.setIfInBounds_toArray, List.set_cons_zero, List.set_cons_succ]
          refine HG.on 9 83 hA0.out ?_
          try simp only [Act.put, List.setIfInBounds_toArray, List.set_cons_zero, List.set_cons_succ]
          refine wpHd_one (i := 10) rfl rfl (by kernel_rfl) (fun KK hK => ?_)
          go_simp
          refine hK.out _ _ (held_of (by have := HB11.out; exact eX)) (fun hA => ?_)
          clear hK KK hA
          refine wpHd_one (i := 11) rfl rfl (by kernel_rfl) (fun KK hK => ?_)
          go_simp
          refine hK.out _ _ (held_of (by have := HB11.out; exact eX)) (fun hA => ?_)
          clear hK KK hA hA0
          have hA0 : Hid ((fun w' => Ext (w10) w' ∧ (∀ b o, b < (w10).heap.size → w'.cell? ⟨b, o, none⟩ = (w10).cell? ⟨b, o, none⟩) ∧ (∀ b o, b < (w10).heap.size → w'.frozen? ⟨b, o, none⟩ = (w10).frozen? ⟨b, o, none⟩)) (w11.alloc (.cells #[.slice ua U.length uc, .slice ra2 U.length rc2] 56))) := held_of (by have := HB11.out; exact eX)
          refine HG.on 12 18 hA0.out ?_
          try simp only [Act.put, List.setIfInBounds_toArray, List.set_cons_zero, List.set_cons_succ]
          clear hA0 g0 g1 g2 hbt gY zY
          refine wpHd_tail (by kernel_rfl) ?_
          simp only [List.drop_succ_cons, List.drop_zero]
          go_wp2
          go_meet
          case rel => exact ⟨_, ra2, rc2, rfl, rfl, rfl, Hid.mk' (Blk.new _ _ _), Hid.mk' (HR11.out.ext (by exact eX)), Hid.mk' (by have := HB11.out; exact eX)⟩
        · go_simp
          refine hK.out _ _ (held_of (by exact eX)) (fun hA => ?_)
          clear hK KK hA
          refine wpHd_one (i := 5) rfl rfl (by kernel_rfl) (fun KK hK => ?_)
          go_simp
          refine (HRB.out _ (by exact eX)).mono ?_
          rintro e w11 ⟨ra2, rc2, rfl, hr11, hb11⟩
          have HR11 := Hid.mk' hr11
          have HB11 := Hid.mk' (show Ext w10 w11 by exact eX)
          have HX7 := Hid.mk' (show Blk w11 w10.heap.size #[.slice none 0 0, .slice none 0 0] 56 from (Blk.drew (Blk.new w10 _ _)).ext hb11)
          refine hK.out _ _ (held_of HB11.out) (fun hA => ?_)
          clear hK KK hA hA0 hr11 hb11
          have hA0 : Hid ((fun w' => Ext (w10) w' ∧ (∀ b o, b < (w10).heap.size → w'.cell? ⟨b, o, none⟩ = (w10).cell? ⟨b, o, none⟩) ∧ (∀ b o, b < (w10).heap.size → w'.frozen? ⟨b, o, none⟩ = (w10).frozen? ⟨b, o, none⟩)) w11) := held_of HB11.out
          refine HG.on 6 74 hA0.out ?_
          try simp only [Act.put, List.setIfInBounds_toArray, List.set_cons_zero, List.set_cons_succ]
          refine HG.on 7 81 hA0.out ?_
          try simp only [Act.put, List.setIfInBounds_toArray, List.set_cons_zero, List.set_cons_succ]
          refine HG.on 8 82 hA0.out ?_
          try simp only [Act.put, List.setIfInBounds_toArray, List.set_cons_zero, List.set_cons_succ]
          refine HG.on 9 83 hA0.out ?_
          try simp only [Act.put, List.setIfInBounds_toArray, List.set_cons_zero, List.set_cons_succ]
          have gX7 := HX7.out.cell
          have gX7f := HX7.out.frozen
          have zX7 := HX7.out.lt
          refine wpHd_one (i := 11) rfl rfl (by kernel_rfl) (fun KK hK => ?_)
          go_simp
          have HE12 := Hid.mk' (show Ext w10 ((w11.setCell ⟨w10.heap.size, 0, none⟩ (.slice ua U.length uc)).setCell ⟨w10.heap.size, 1, none⟩ (.slice ra2 U.length rc2)) from Ext.twoB HB11.out (Nat.le_refl _))
          refine hK.out _ _ (held_of HE12.out) (fun hA => ?_)
          clear hK KK hA hA0
          have hA0 : Hid ((fun w' => Ext (w10) w' ∧ (∀ b o, b < (w10).heap.size → w'.cell? ⟨b, o, none⟩ = (w10).cell? ⟨b, o, none⟩) ∧ (∀ b o, b < (w10).heap.size → w'.frozen? ⟨b, o, none⟩ = (w10).frozen? ⟨b, o, none⟩)) ((w11.setCell ⟨w10.heap.size, 0, none⟩ (.slice ua U.length uc)).setCell ⟨w10.heap.size, 1, none⟩ (.slice ra2 U.length rc2))) := held_of HE12.out
          refine HG.on 12 18 hA0.out ?_
          try simp only [Act.put, List.setIfInBounds_toArray, List.set_cons_zero, List.set_cons_succ]
          clear hA0 g0 g1 g2 hbt gY zY gX7 gX7f zX7
          refine wpHd_tail (by kernel_rfl) ?_
          simp only [List.drop_succ_cons, List.drop_zero]
          go_wp2
          go_meet
          case rel => exact ⟨_, ra2, rc2, rfl, rfl, rfl, Hid.mk' (Blk.twoB HX7.out), Hid.mk' (HR11.out.cold ⟨_, _, _, _, _, _, HX7.out⟩ Kp.twoB), HE12⟩
      case rest =>
        obtain ⟨X7, ra2, rc2, rfl, rfl, rfl, HB7, HR11, HEc⟩ := hcut
        clear g0 g1 g2 hbt gY zY
        have HY11 := Hid.mk' (HY10.out.ext HEc.out)
        have HM11 := Hid.mk' (HM10.out.ext HEc.out)
        have HU11 := Hid.mk' (HU10.out.ext HEc.out)
        have HKc := Hid.mk' (HKK.out.trans (T := fun _ => False) (Kp.of_ext HEc.out) (fun _ h => h.elim))
        have gY := HY11.out.cell
        have gYf := HY11.out.frozen
        have zY := HY11.out.lt
        have g7 := HB7.out.cell
        have z7 := HB7.out.lt
        have hB22 := Hid.mk' (show B22 wc X from ⟨_, _, _, _, _, _, HY11.out⟩)
        have hktw : k < ts.length := HLTK.out
        go_wp2
        go_roundg (ts.length - (k + 1))
        case measure => have := HLTK.out; omega
        case rel => exact ⟨k + 1, T2, ra2, rc2, Nat.sub_add_cancel HLTK.out, by go_num, Hid.mk' (HM11.out.cold hB22.out Kp.twoB), Hid.mk' (HR11.out.cold hB22.out Kp.twoB), Hid.mk' (HU11.out.cold hB22.out Kp.twoB), Hid.mk' (Blk.twoB HY11.out), HI2, Hid.mk' (HT2.out.mono (by have := HXT.out; have := HEL.out; omega)), Hid.mk' (HKc.out.trans (Kp.twoB (b := X)) (fun x hx _ => .inr hx))⟩
    · obtain rfl : k = ts.length := by omega
      have HEA := Hid.mk' (HEG.out wr hK.out)
      have HT600 := Hid.mk' (hT.out.mono (show manyT ts ts.length ≤ 600 from HM6.out ts.length))
      have HT6 := Hid.mk' (HT600.out.mono (show 600 ≤ 1000 by omega))
      have HMA := Hid.mk' hM.out
      have HRA := Hid.mk' hR.out
      have HUA := Hid.mk' hU.out
      have HYA := Hid.mk' hY.out
      have HIA := Hid.mk' (hI.out.zero HOKL.out)
      have HKA := Hid.mk' (HX9.out.kp hK.out (by have := HW0.out; have := HXW.out; omega))
      have HBU := Hid.mk' (b32_of (HUL.out.trans HLX.out.symm) HBX.out)
      obtain ⟨wa, hwa⟩ : ∃ x, x = wr := ⟨_, rfl⟩
      subst hwa
      clear hM hR hU hY hI hT hK HTQ HSM5 HWK5 HQL HQT HS9 HR9 HU9 HY9 HX9 HEG HEW9 HWK HLA HM6
      go_wp2
      go_loopg [20, 21] U.length (fun z m i wr => ∃ (k : Nat), z + k = U.length ∧ m = .int .i64 (upTo L T k : Nat) ∧ i = .int .i64 k ∧ Hid (Ext wa wr))
      case atStart => exact ⟨0, by omega, rfl, rfl, Hid.mk' (Ext.refl wa)⟩
      case round =>
        obtain ⟨k, hzk, rfl, rfl, hE⟩ := hrel
        by_cases hlt : k < U.length
        · obtain ⟨b, o, rfl, hb, hx⟩ := HUA.out.row.at_ (i := k) (by simpa using hlt)
          have HF := Hid.mk' (fun W (h : Ext wa W) => (show _ ∧ b < W.heap.size from ⟨RR.at_ hlt hx hb h, Nat.lt_of_lt_of_le hb h.size⟩))
          have hlk : k < L.length := by rw [← HUL.out, List.length_map]; exact hlt
          have hlr : L[k]'hlk = (U[k]'hlt).r := by
            have h1 := congrArg (fun z => z[k]?) HUL.out
            simpa [hlt, hlk] using h1.symm
          have HOF := Hid.mk' (rowsOf_in (T := T) hlk)
          have HSU := Hid.mk' (upTo_succ (T := T) hlk)
          have HUB0 := Hid.mk' (upTo_le (rs := L) HT600.out k)
          have HBP := Hid.mk' (HBU.out _ (List.getElem_mem hlt))
          rw [hlr] at HOF HSU
          have HLT2 := Hid.mk' hlt
          have i1 : (k : Int) < (U.length : Int) := by omega
          have hd1 : decide (U.length ≤ k) = false := decide_eq_false (by omega)
          have hd2 : decide ((U.length : Int) ≤ (k : Int)) = false := decide_eq_false (by omega)
          obtain ⟨p, hp⟩ : ∃ p, p = U[k]'hlt := ⟨_, rfl⟩
          rw [← hp] at HF HOF HSU HBP
          clear hp hx hb hlr hlk
          obtain ⟨⟨oid, ver, nm, id, cols⟩, pa, pc⟩ := p
          simp only at HF HOF HSU HBP
          have HR2 := Hid.mk' (fun W (h : Ext wa W) => rrows22_any U T (some ⟨b, o, none⟩) uc ra U.length rc oid ver W (HUA.out.ext h) (by have := HU64.out; omega) (HRA.out.ext h))
          rw [HUL.out, HOF.out] at HR2
          have HN6 := Hid.mk' (HT600.out.n oid ver)
          obtain ⟨⟨f0, f1, f2, f3, f4⟩, hbw⟩ := HF.out wr hE.out
          have gY := (HYA.out.ext hE.out).cell
          have zY := (HYA.out.ext hE.out).lt
          go_upto_region 24 with (fail)
          have hA0 : Hid ((fun w' => Ext (wr) w' ∧ (∀ b o, b < (wr).heap.size → w'.cell? ⟨b, o, none⟩ = (wr).cell? ⟨b, o, none⟩) ∧ (∀ b o, b < (wr).heap.size → w'.frozen? ⟨b, o, none⟩ = (wr).frozen? ⟨b, o, none⟩)) wr.drew) := held_of (by exact eX)
          refine wp_region_head 7 (fun w' => Ext (wr) w' ∧ (∀ b o, b < (wr).heap.size → w'.cell? ⟨b, o, none⟩ = (wr).cell? ⟨b, o, none⟩) ∧ (∀ b o, b < (wr).heap.size → w'.frozen? ⟨b, o, none⟩ = (wr).frozen? ⟨b, o, none⟩)) (by kernel_rfl) (by decide) ?_
          refine HG.on 0 99 hA0.out ?_
          try simp only [Act.put, List.setIfInBounds_toArray, List.set_cons_zero, List.set_cons_succ]
          refine HG.on 1 100 hA0.out ?_
          try simp only [Act.put, List.setIfInBounds_toArray, List.set_cons_zero, List.set_cons_succ]
          refine HG.on 2 101 hA0.out ?_
          try simp only [Act.put, List.setIfInBounds_toArray, List.set_cons_zero, List.set_cons_succ]
          refine HG.on 3 102 hA0.out ?_
          try simp only [Act.put, List.setIfInBounds_toArray, List.set_cons_zero, List.set_cons_succ]
          refine HG.on 4 103 hA0.out ?_
          try simp only [Act.put, List.setIfInBounds_toArray, List.set_cons_zero, List.set_cons_succ]
          refine HG.on 5 104 hA0.out ?_
          try simp only [Act.put, List.setIfInBounds_toArray, List.set_cons_zero, List.set_cons_succ]
          refine wpHd_one (i := 6) rfl rfl (by kernel_rfl) (fun KK hK => ?_)
          go_simp
          refine (HR2.out _ (hE.out.trans (by exact eX))).mono ?_
          rintro e w11 ⟨x, rfl, hx11, hb11⟩
          have hx12 := hx11
          obtain ⟨xa, xc, rs, rfl, -, -, hrl, -⟩ := hx12
          have HX11 := Hid.mk' hx11
          have HB11 := Hid.mk' (show Ext wr w11 by exact eX)
          refine hK.out _ _ (held_of HB11.out) (fun hA => ?_)
          have hrn := congrArg List.length hrl
          rw [List.length_map] at hrn
          have HRN := Hid.mk' hrn
          clear hK KK hA hA0 hx11 hb11 f0 f1 f2 f3 f4 hbw gY zY hrn hrl
          refine wpHd_tail (by kernel_rfl) ?_
          simp only [List.drop_succ_cons, List.drop_zero]
          obtain ⟨D, hD⟩ : ∃ D, D = upTo L T k := ⟨_, rfl⟩
          rw [← hD] at HSU HUB0 ⊢
          have hw : IntKind.i64.wrap ((D : Int) + (rs.length : Int)) = (D : Int) + (rs.length : Int) := IntWalk.i64_in _ (by have h1 := HUB0.out; have h2 := HRN.out; have h3 := HN6.out; have h4 := HU64.out; have h5 : k * 600 ≤ 64 * 600 := Nat.mul_le_mul_right _ (by omega); omega)
          clear hD
          have HE11 := Hid.mk' (hE.out.trans HB11.out)
          obtain ⟨⟨f0, f1, f2, f3, f4⟩, hbw⟩ := HF.out w11 HE11.out
          have HRW := Hid.mk' (fun W (h : Ext wa W) => brows_any _ G qx T oid ver W (HMA.out.ext h) HBP.out.1 HBP.out.2 HT6.out)
          have HLR := Hid.mk' (fun a' c' qs N W (h : Ext w11 W) (hq : OwnP W N (T oid ver) (.slice a' qs.length c') qs) => lrows_any a' c' qs (.slice xa rs.length xc) W hq.rs (by rw [hq.l]; exact HX11.out.ext h) (by have h1 := hq.len; have h2 := HN6.out; omega) (fun q hm => HT6.out.r oid ver q.l (by rw [← hq.l]; exact List.mem_map_of_mem hm)))
          have hltu : k < U.length := HLT2.out
          have hu64 : U.length ≤ 64 := HU64.out
          go_wp2_with (first
            | (go_at_call 22; refine (ref9_any oid ver _).mono ?_; rintro e w12 ⟨rfl, hb12⟩; have HE12 := Hid.mk' (show Ext w11 w12 by exact eX); clear hb12)
            | (go_at_call 21; refine (HRW.out _ (HE11.out.trans HE12.out)).mono ?_; rintro e w13 ⟨a13, c13, qs13, rfl, hq13, hb13⟩; have HE13 := Hid.mk' (HE12.out.trans hb13); have HLQ := Hid.mk' (HLR.out _ _ _ _ w13 HE13.out hq13); clear hq13 hb13)
            | (go_at_call 20; refine HLQ.out.mono ?_; rintro e w14 ⟨rfl, hb14⟩; have HE14 := Hid.mk' (HE11.out.trans (HE13.out.trans hb14)); clear hb14))
          go_roundg (U.length - (k + 1))
          case measure => omega
          case rel => exact ⟨k + 1, Nat.sub_add_cancel HLT2.out, by rw [HSU.out, HRN.out, Int.natCast_add], by go_num, HE14⟩
        · obtain rfl : k = U.length := by omega
          have HLN := Hid.mk' (show upTo L T U.length = lenT L T from by
            have h1 : U.length = L.length := by rw [← HUL.out, List.length_map]
            unfold upTo lenT
            rw [h1, List.take_length])
          have HLB := Hid.mk' (show lenT L T ≤ 9223372036854775807 from by
            have h1 := upTo_le (rs := L) HT600.out U.length
            rw [HLN.out] at h1
            have h2 := HU64.out
            have h3 : U.length * 600 ≤ 64 * 600 := Nat.mul_le_mul_right _ (by omega)
            omega)
          rw [HLN.out]
          have gK := (HKA.out.ext hE.out).cell
          have zK := (HKA.out.ext hE.out).lt
          have HOK := Hid.mk' (fun W (h : Ext wa W) => ownK_any key ka kc W (HKS.out.ext (HEA.out.trans h)) (by have := HKL.out; omega))
          have HFD := Hid.mk' (fun W (h : Ext wa W) a' c' (hs : Sl W (.slice a' key.length c') 5 (key.map K.pc)) => bfind_any _ G qx T ko kv key a' c' W (HMA.out.ext h) HBX.out HT6.out hs (by have := HKL.out; omega))
          have HF2 := Hid.mk' (fun W (h : Ext wa W) => rfind22_any U T ua uc ra U.length rc ko kv key ka kc W (HUA.out.ext h) (by have := HU64.out; omega) (fun p hp => by have := HRC.out.n16 hp; omega) (HRA.out.ext h) HT6.out (HKS.out.ext (HEA.out.trans h)) (by have := HKL.out; omega))
          rw [HLX.out] at HFD
          rw [HUL.out] at HF2
          have HFL := Hid.mk' (show ((findP L T ko kv key).getD []).length ≤ 1000 from by
            cases hf : findP L T ko kv key with
            | none => exact Nat.zero_le _
            | some l => exact HT6.out.r ko kv l (findP_mem hf))
          generalize findP L T ko kv key = FP at HFD HF2 HFL
          unfold FindPost at HFD
          unfold FindR at HF2
          obtain ⟨fl, hfl⟩ : ∃ l, l = FP.getD [] := ⟨_, rfl⟩
          obtain ⟨fb, hfb⟩ : ∃ l, l = FP.isSome := ⟨_, rfl⟩
          rw [← hfl] at HFL
          simp only [← hfl, ← hfb] at HFD HF2
          clear hfl hfb
          go_upto_region 28 with (fail)
          have hA0 : Hid ((fun w' => Ext (wr) w' ∧ (∀ b o, b < (wr).heap.size → w'.cell? ⟨b, o, none⟩ = (wr).cell? ⟨b, o, none⟩) ∧ (∀ b o, b < (wr).heap.size → w'.frozen? ⟨b, o, none⟩ = (wr).frozen? ⟨b, o, none⟩)) wr.drew) := held_of (by exact eX)
          refine wp_region_head 12 (fun w' => Ext (wr) w' ∧ (∀ b o, b < (wr).heap.size → w'.cell? ⟨b, o, none⟩ = (wr).cell? ⟨b, o, none⟩) ∧ (∀ b o, b < (wr).heap.size → w'.frozen? ⟨b, o, none⟩ = (wr).frozen? ⟨b, o, none⟩)) (by kernel_rfl) (by decide) ?_
          refine HG.on 0 122 hA0.out ?_
          try simp only [Act.put, List.setIfInBounds_toArray, List.set_cons_zero, List.set_cons_succ]
          refine HG.on 1 123 hA0.out ?_
          try simp only [Act.put, List.setIfInBounds_toArray, List.set_cons_zero, List.set_cons_succ]
          refine HG.on 2 124 hA0.out ?_
          try simp only [Act.put, List.setIfInBounds_toArray, List.set_cons_zero, List.set_cons_succ]
          refine HG.on 4 126 hA0.out ?_
          try simp only [Act.put, List.setIfInBounds_toArray, List.set_cons_zero, List.set_cons_succ]
          refine HG.on 5 127 hA0.out ?_
          try simp only [Act.put, List.setIfInBounds_toArray, List.set_cons_zero, List.set_cons_succ]
          refine wpHd_one (i := 3) rfl rfl (by kernel_rfl) (fun KK hK => ?_)
          go_simp
          refine (ref9_any ko kv _).mono ?_
          rintro e w11 ⟨rfl, hb11⟩
          have HB11 := Hid.mk' (show Ext wr w11 by exact eX)
          refine hK.out _ _ (held_of HB11.out) (fun hA => ?_)
          clear hK KK hA hA0 hb11
          refine wpHd_one (i := 6) rfl rfl (by kernel_rfl) (fun KK hK => ?_)
          go_simp
          refine (HOK.out _ (hE.out.trans HB11.out)).mono ?_
          rintro e w12 ⟨a12, c12, rfl, -, hs12, hb12⟩
          have HB12 := Hid.mk' (show Ext wr w12 from HB11.out.trans hb12)
          have HS12 := Hid.mk' hs12
          refine hK.out _ _ (held_of HB12.out) (fun hA => ?_)
          clear hK KK hA hb12 hs12
          refine wpHd_one (i := 7) rfl rfl (by kernel_rfl) (fun KK hK => ?_)
          go_simp
          refine (HFD.out _ (hE.out.trans HB12.out) _ _ HS12.out).mono ?_
          rintro e w13 ⟨a13, c13, rfl, hs13, hb13⟩
          have HB13 := Hid.mk' (show Ext wr w13 from HB12.out.trans hb13)
          have HS13 := Hid.mk' hs13
          refine hK.out _ _ (held_of HB13.out) (fun hA => ?_)
          clear hK KK hA hb13 hs13 gK zK
          have hA0 : Hid ((fun w' => Ext (wr) w' ∧ (∀ b o, b < (wr).heap.size → w'.cell? ⟨b, o, none⟩ = (wr).cell? ⟨b, o, none⟩) ∧ (∀ b o, b < (wr).heap.size → w'.frozen? ⟨b, o, none⟩ = (wr).frozen? ⟨b, o, none⟩)) w13) := held_of HB13.out
          refine HG.on 8 121 hA0.out ?_
          try simp only [Act.put, List.setIfInBounds_toArray, List.set_cons_zero, List.set_cons_succ]
          refine HG.on 9 130 hA0.out ?_
          try simp only [Act.put, List.setIfInBounds_toArray, List.set_cons_zero, List.set_cons_succ]
          refine HG.on 10 131 hA0.out ?_
          try simp only [Act.put, List.setIfInBounds_toArray, List.set_cons_zero, List.set_cons_succ]
          refine HG.on 11 23 hA0.out ?_
          try simp only [Act.put, List.setIfInBounds_toArray, List.set_cons_zero, List.set_cons_succ]
          clear hA0
          refine wpHd_tail (by kernel_rfl) ?_
          simp only [List.drop_succ_cons, List.drop_zero]
          have HE13 := Hid.mk' (hE.out.trans HB13.out)
          have gK := (HKA.out.ext HE13.out).cell
          have zK := (HKA.out.ext HE13.out).lt
          have gY := (HYA.out.ext HE13.out).cell
          have zY := (HYA.out.ext HE13.out).lt
          go_upto_region 30 with (go_at_call 25; refine (HF2.out _ (HE13.out.trans (by exact eX))).mono ?_; rintro e w14 ⟨a14, c14, rfl, hs14, hb14⟩; have HS14 := Hid.mk' hs14; have HB14 := Hid.mk' (show Ext w13 w14 by exact eX); clear hs14 hb14)
          clear gK zK gY zY HF2 HFD HOK
          have HE14 := Hid.mk' (HE13.out.trans HB14.out)
          have HBL := Hid.mk' (fun W (h : Ext wa W) => blen_any _ G qx T W (HMA.out.ext h) HBX.out (by rw [HLX.out]; exact HLB.out))
          rw [HLX.out] at HBL
          have HBK := Hid.mk' (fun W (h : Ext w14 W) => backK_any fl a13 c13 W (HS13.out.ext (HB14.out.trans h)) HFL.out)
          have HSM := Hid.mk' (fun W (h : Ext w14 W) a' c' (hs : Sl W (.slice a' fl.length c') 6 (fl.map K.rc)) => rsame_any fl fl a' a14 c' c14 W hs (HS14.out.ext h) HFL.out HFL.out)
          rw [rowB_true.2 rfl] at HSM
          have HR0 : Hid (∀ W, Ext wa W → Calls Tryz.prog 21 #[.pointer (some ⟨G, 0, none⟩), .agg #[.int .u32 0, .int .u32 0]] W (fun e w' => ∃ a' c', e = .returned (.slice a' 0 c') ∧ Ext W w')) := Hid.mk' (fun W h => (brows_any _ G qx T 0 0 W (HMA.out.ext h) ⟨by decide, by decide⟩ ⟨by decide, by decide⟩ HT6.out).mono (by
            rintro e w' ⟨a', c', qs', rfl, hq, hb⟩
            have h1 := hq.len
            rw [HIA.out, List.length_nil] at h1
            rw [h1]
            exact ⟨a', c', rfl, hb⟩))
          generalize lenT L T = LN at HBL
          go_wp2_with (first
            | (go_at_call 11; refine (HBL.out _ HE14.out).mono ?_; rintro e w15 ⟨rfl, hb15⟩; have HB15 := Hid.mk' hb15; clear hb15)
            | (go_at_call 27; refine (HBK.out _ HB15.out).mono ?_; rintro e w16 ⟨a16, c16, rfl, -, hs16, hb16⟩; have HS16 := Hid.mk' hs16; have HB16 := Hid.mk' (HB15.out.trans hb16); clear hb16 hs16)
            | (go_at_call 26; refine (HSM.out _ HB16.out _ _ HS16.out).mono ?_; rintro e w17 ⟨rfl, hb17⟩; have HB17 := Hid.mk' (HB16.out.trans hb17); clear hb17)
            | (go_at_call 21; refine (HR0.out _ (HE14.out.trans HB17.out)).mono ?_; rintro e w18 ⟨a18, c18, rfl, hb18⟩; have HB18 := Hid.mk' (HB17.out.trans hb18); clear hb18)
            | (go_at_call 13; refine (awake22_any _).mono ?_; rintro e w19 ⟨rfl, hb19⟩; have HB19 := Hid.mk' (HB18.out.trans hb19); clear hb19))
          go_ret
          exact ⟨rfl, HEA.out.trans (HE14.out.trans HB19.out)⟩

end Go.Proofs.YtdgalkljngigeaaGreat

/-
Opening any arguments by their types (structs and arrays laid flat; slices), and closing a law's row: true, and all reads as it did.
-/
namespace Go.Proofs.YtdgalkljngigeaaGreat
open Go.RowKit Go.ChangeShapes Go.WideShapes Go.ChangeAt

section
variable {H : Type} {enc : TypeId × Value → H} {P : Program} {w : World} {base : Nat} {spare : Nat → Bool} {held : Bool}

/-- A cell of some type. -/
def Lf (enc : TypeId × Value → H) (P : Program) (w : World) (base : Nat) (spare : Nat → Bool) (held : Bool) (t : TypeId) (c : Value) : Prop := ∃ n x, DataW.trod enc P w base spare held n t [c] = some x

def Lfs (enc : TypeId × Value → H) (P : Program) (w : World) (base : Nat) (spare : Nat → Bool) (held : Bool) : List TypeId → List Value → Prop
  | [], [] => True
  | t :: ts, c :: cs => Lf enc P w base spare held t c ∧ Lfs enc P w base spare held ts cs
  | _, _ => False

theorem Lfs.append : ∀ (ts us : List TypeId) (cs : List Value), Lfs enc P w base spare held ts (cs.take ts.length) → Lfs enc P w base spare held us (cs.drop ts.length) → Lfs enc P w base spare held (ts ++ us) cs
  | [], us, cs, _, h => by simpa using h
  | t :: ts, us, [], h, _ => by simp [Lfs] at h
  | t :: ts, us, c :: cs, h, h' => by
    simp only [List.length_cons, List.take_succ_cons, Lfs] at h
    exact ⟨h.1, Lfs.append ts us cs h.2 (by simpa using h')⟩

def offs (P : Program) : Nat → List Field → List (List TypeId) → Bool
  | _, [], [] => true
  | o, f :: fs, l :: ls => f.offset == o && P.cellsOf f.type == l.length && offs P (o + l.length) fs ls
  | _, _, _ => false

/-- The types of a type's cells. -/
def flat (P : Program) : Nat → TypeId → Option (List TypeId)
  | 0, _ => none
  | k + 1, t =>
    match P.underlying t with
    | some (.struct fs) => (fs.toList.mapM fun f => flat P k f.type).bind fun ls => if offs P 0 fs.toList ls && P.cellsOf t == ls.flatten.length then some ls.flatten else none
    | some (.array n e) => (flat P k e).bind fun l => if P.cellsOf e == l.length && P.cellsOf t == n * l.length then some (List.replicate n l).flatten else none
    | _ => some [t]

theorem trod_single {n : Nat} {t : TypeId} {cs : List Value} {x : DataW H × List MemPlace} (h : DataW.trod enc P w base spare held n t cs = some x)
    (h1 : ∀ fs, P.underlying t ≠ some (.struct fs)) (h2 : ∀ n e, P.underlying t ≠ some (.array n e)) : ∃ c, cs = [c] := by
  cases n with
  | zero => simp [DataW.trod] at h
  | succ n =>
    unfold DataW.trod at h
    split at h
    all_goals first
      | exact ⟨_, rfl⟩
      | (rename_i h3; exact absurd h3 (h1 _))
      | (rename_i h3; exact absurd h3 (h2 _ _))
      | simp at h

theorem offs_open (k : Nat) (ih : ∀ (t : TypeId) (ts : List TypeId) (n : Nat) (cs : List Value) (x : DataW H × List MemPlace), flat P k t = some ts → DataW.trod enc P w base spare held n t cs = some x → Lfs enc P w base spare held ts cs)
    (n : Nat) (cs : List Value) : ∀ (fs : List Field) (ls : List (List TypeId)) (o : Nat), offs P o fs ls = true → (fs.mapM fun f => flat P k f.type) = some ls →
    cs.length = o + ls.flatten.length →
    (∀ f ∈ fs, ∃ y, DataW.trod enc P w base spare held n f.type ((cs.drop f.offset).take (P.cellsOf f.type)) = some y) → Lfs enc P w base spare held ls.flatten (cs.drop o) := by
  intro fs
  induction fs with
  | nil =>
    intro ls o ho hm hl _
    cases ls with
    | nil => simp at hl; rw [List.drop_eq_nil_of_le (by omega)]; trivial
    | cons l ls => simp [offs] at ho
  | cons f fs ih2 =>
    intro ls o ho hm hl hf
    cases ls with
    | nil => simp [offs] at ho
    | cons l ls =>
      simp only [offs, Bool.and_eq_true, beq_iff_eq] at ho
      obtain ⟨⟨ho1, ho2⟩, ho3⟩ := ho
      simp only [List.mapM_cons, Option.bind_eq_bind, Option.bind_eq_some_iff, Option.pure_def, Option.some.injEq, List.cons.injEq] at hm
      obtain ⟨l', h1, ls', h2, rfl, rfl⟩ := hm
      obtain ⟨y, hy⟩ := hf f (by simp)
      rw [ho1, ho2] at hy
      have a1 := ih f.type l' n _ y h1 hy
      simp only [List.flatten_cons, List.length_append] at hl
      have a2 := ih2 ls' (o + l'.length) ho3 h2 (by omega) (fun g hg => hf g (by simp [hg]))
      rw [List.flatten_cons]
      exact Lfs.append l' ls'.flatten _ a1 (by rw [List.drop_drop]; exact a2)

theorem arr_open (l : List TypeId) (e : TypeId) (n : Nat) (he : P.cellsOf e = l.length) (h1 : ∀ cs x, DataW.trod enc P w base spare held n e cs = some x → Lfs enc P w base spare held l cs) (cs : List Value) :
    ∀ (m i : Nat), cs.length = (i + m) * l.length → (∀ j, i ≤ j → j < i + m → ∃ y, DataW.trod enc P w base spare held n e ((cs.drop (j * P.cellsOf e)).take (P.cellsOf e)) = some y) →
    Lfs enc P w base spare held (List.replicate m l).flatten (cs.drop (i * l.length)) := by
  intro m
  induction m with
  | zero => intro i hl _; rw [List.drop_eq_nil_of_le (by simp at hl; omega)]; simp [Lfs]
  | succ m ih =>
    intro i hl hf
    obtain ⟨y, hy⟩ := hf i (by omega) (by omega)
    rw [he] at hy
    have a1 := h1 _ y hy
    have a2 := ih (i + 1) (by rw [hl]; congr 1; omega) (fun j h1 h2 => hf j (by omega) (by omega))
    rw [List.replicate_succ, List.flatten_cons]
    refine Lfs.append l _ _ a1 ?_
    rw [List.drop_drop, ← Nat.succ_mul]
    exact a2

theorem flat_open (k : Nat) : ∀ (t : TypeId) (ts : List TypeId) (n : Nat) (cs : List Value) (x : DataW H × List MemPlace), flat P k t = some ts → DataW.trod enc P w base spare held n t cs = some x → Lfs enc P w base spare held ts cs := by
  induction k with
  | zero => intro t ts n cs x h; simp [flat] at h
  | succ k ih =>
    intro t ts n cs x h hx
    unfold flat at h
    split at h
    · rename_i fs hu
      obtain ⟨xs, m, _, rfl, hlen, hxl, hf⟩ := DataW.trod_struct hu hx
      simp only [Option.bind_eq_some_iff] at h
      obtain ⟨ls, hm, h⟩ := h
      split at h
      · rename_i hc
        rw [Bool.and_eq_true, beq_iff_eq] at hc
        cases h
        have := offs_open k ih m cs fs.toList ls 0 hc.1 hm (by rw [hlen, hc.2, Nat.zero_add]) (fun f hfm => by
          obtain ⟨i, hi, hif⟩ := List.mem_iff_getElem.1 hfm
          have hi' : i < fs.size := by simpa using hi
          have g : fs[i]? = some f := by rw [← hif]; simp [hi']
          have := hf i f g
          rw [List.getElem?_eq_getElem (by omega)] at this
          exact ⟨_, this⟩)
        simpa using this
      · cases h
    · rename_i m e hu
      obtain ⟨xs, q, _, rfl, hlen, hxl, hf⟩ := DataW.trod_array hu hx
      simp only [Option.bind_eq_some_iff] at h
      obtain ⟨l, hl, h⟩ := h
      split at h
      · rename_i hc
        rw [Bool.and_eq_true, beq_iff_eq, beq_iff_eq] at hc
        cases h
        have := arr_open (enc := enc) (P := P) (w := w) (base := base) (spare := spare) (held := held) l e q hc.1 (fun cs y hy => ih e l q cs y hl hy) cs m 0 (by rw [hlen, hc.2, Nat.zero_add]) (fun j _ hj => by
          have := hf j (by omega)
          rw [List.getElem?_eq_getElem (by omega)] at this
          exact ⟨_, this⟩)
        simpa using this
      · cases h
    · rename_i h1 h2
      cases h
      obtain ⟨c, rfl⟩ := trod_single hx (fun fs e => h1 fs e) (fun n e he => h2 n e he)
      exact ⟨⟨n, x, hx⟩, trivial⟩

theorem Lf.int {t : TypeId} {c : Value} {k : IntKind} (h : Lf enc P w base spare held t c) (ht : P.underlying t = some (.int k)) : ∃ n, c = .int k n ∧ (Lit.int k n).wf = true := by
  obtain ⟨m, x, h⟩ := h
  obtain ⟨n, h1, _, h3⟩ := DataW.trod_int ht h
  cases h1
  exact ⟨n, rfl, h3⟩
theorem Lf.string {t : TypeId} {c : Value} (h : Lf enc P w base spare held t c) (ht : P.underlying t = some .string) : ∃ s : ByteArray, c = .string s ∧ s.size ≤ 9223372036854775807 := by
  obtain ⟨m, x, h⟩ := h
  obtain ⟨n, h1, _, h3⟩ := DataW.trod_string ht h
  cases h1
  exact ⟨n, rfl, h3⟩
theorem Lf.bool {t : TypeId} {c : Value} (h : Lf enc P w base spare held t c) (ht : P.underlying t = some .bool) : ∃ b : Bool, c = .bool b := by
  obtain ⟨m, x, h⟩ := h
  obtain ⟨n, h1, _⟩ := DataW.trod_bool ht h
  cases h1
  exact ⟨n, rfl⟩

/-- A slice, opened: its elements' cells, and what each reads as. -/
theorem trod_sl {T E : TypeId} {k n : Nat} {cs : List Value} {x : DataW H × List MemPlace} (ht : P.underlying T = some (.slice E)) (hk : P.cellsOf E = k) (hk0 : 0 < k) (h : DataW.trod enc P w base spare held n T cs = some x) :
    ∃ v xss, cs = [v] ∧ Sl w v k xss ∧ xss.length ≤ 9223372036854775807 ∧ ∀ xs ∈ xss, xs.length = k ∧ ∃ n x, DataW.trod enc P w base spare held n E xs = some x := by
  rcases Go.Deep.open_slice ht h with ⟨rfl, _⟩ | ⟨a, len, cap, m, q, D, Pl, rfl, hb, hl, hm, hmm, _, hx⟩
  · exact ⟨_, [], rfl, ⟨none, 0, rfl, .inl rfl⟩, by simp, by simp⟩
  · have hlm : len ≤ m := by rw [hmm]; split <;> omega
    have hall : ∀ i, i < len → ∃ cs', w.cells? base (a.add (i * k)) k = some cs' ∧ DataW.trod enc P w base spare held q E cs' = some (D i, Pl i) := fun i hi => by
      have := hx i (by omega); rwa [hk] at this
    obtain ⟨C, hC⟩ := Go.Deep.choose_lt hall
    have hcl : cap ≤ 9223372036854775807 := hm
    refine ⟨_, (List.range len).map C, rfl, ?_, by simp; omega, ?_⟩
    · refine ⟨some a, cap, by simp, ?_⟩
      by_cases h0 : len = 0
      · subst h0; exact .inl rfl
      · right
        have hc0 := (World.cells?_some (hC 0 (by omega)).1)
        have e0 : (a.add (0 * k)).add 0 = a := by unfold Addr.add; simp
        have hcell : (w.cell? a).isSome = true := by
          have := hc0.2.2 0 hk0
          rw [e0] at this
          rw [this, List.getElem?_eq_getElem (by omega)]; rfl
        have hsp : a.spot = none := by
          unfold World.cell? at hcell
          split at hcell
          · split at hcell
            · simp at hcell
            · rename_i hs; simpa using hs
          · simp at hcell
        have hlt : a.block < w.heap.size := by
          unfold World.cell? at hcell
          rcases Nat.lt_or_ge a.block w.heap.size with h1 | h1
          · exact h1
          · rw [Array.getElem?_eq_none h1] at hcell; simp at hcell
        refine ⟨a.block, a.off, by cases a; simp at hsp; subst hsp; rfl, hlt, ?_⟩
        intro i hi j hj
        simp only [List.length_map, List.length_range] at hi
        have h2 := (World.cells?_some (hC i hi).1).2.2 j hj
        rw [Go.Deep.add_add] at h2
        have e : a.add (i * k + j) = ⟨a.block, a.off + i * k + j, none⟩ := by
          unfold Addr.add
          split
          · rename_i hz
            have h3 : i * k = 0 := by omega
            have h4 : j = 0 := by omega
            cases a; simp at hsp; subst hsp; simp [h3, h4]
          · cases a; simp at hsp; subst hsp; simp
        rw [e] at h2
        rw [h2]
        simp [hi]
    · intro xs hxs
      simp only [List.mem_map, List.mem_range] at hxs
      obtain ⟨i, hi, rfl⟩ := hxs
      exact ⟨(World.cells?_some (hC i hi).1).2.1, _, _, (hC i hi).2⟩

theorem exists_map {α β : Type} {f : α → β} {p : α → Prop} : ∀ (l : List β), (∀ y ∈ l, ∃ x, y = f x ∧ p x) → ∃ l' : List α, l = l'.map f ∧ ∀ x ∈ l', p x
  | [], _ => ⟨[], rfl, by simp⟩
  | y :: l, h => by
    obtain ⟨x, hx, hp⟩ := h y (by simp)
    obtain ⟨l', hl, hl'⟩ := exists_map l (fun z hz => h z (by simp [hz]))
    exact ⟨x :: l', by rw [hx, hl]; rfl, by intro z hz; rcases List.mem_cons.1 hz with rfl | hz; exact hp; exact hl' z hz⟩

/-- All arguments read as they did. -/
theorem trodAll_stays {W W' : World} (hl : laidOutB P = true) (hE : Ext W W') : ∀ (ts : List TypeId) (vs : List Value) (ds : List (DataW H)) (ps : List MemPlace), (∀ t ∈ ts, P.readableRec t = true ∧ t < P.types.size) →
    DataW.TrodAll enc P W 0 (fun _ => true) true ts vs ds ps → (∀ x ∈ ps, x.block < W.heap.size) → DataW.TrodAll enc P W' 0 (fun b => decide (b < W.heap.size)) true ts vs ds ps
  | [], [], [], ps, _, h, _ => h
  | t :: ts, v :: vs, d :: ds, ps, hr, h, hlt => by
    obtain ⟨p, q, h1, h2, rfl⟩ := h
    refine ⟨p, q, Below.trod hl (hr t (by simp)).1 (hr t (by simp)).2 h1 hE (fun x hx => hlt x (by simp [hx])), ?_, rfl⟩
    exact trodAll_stays hl hE ts vs ds q (fun u hu => hr u (by simp [hu])) h2 (fun x hx => hlt x (by simp [hx]))
  | [], _ :: _, _, _, _, h, _ => by simp [DataW.TrodAll] at h
  | [], [], _ :: _, _, _, h, _ => by simp [DataW.TrodAll] at h
  | _ :: _, [], _, _, _, h, _ => by simp [DataW.TrodAll] at h
  | _ :: _, _ :: _, [], _, _, h, _ => by simp [DataW.TrodAll] at h

/-- A law's row: it answered true; what was there is as it was. -/
theorem post_law {f : Func} {s : ChangeSpec} {apart : Bool} {W W' : World} {args : Array Value} {ds gs : List (DataW H)} {before : List MemPlace} {tb : TypeId}
    (hl : laidOutB P = true) (hb : P.underlying tb = some .bool) (hrt : f.resultTypes = #[tb]) (hr : f.params.toList.all (fun t => P.readableRec t && decide (t < P.types.size)) = true) (hv : s.vars = [])
    (hW : DataW.Whole enc P f.params.toList s.vars apart W args.toList ds gs before)
    (h1 : (s.fn H (ds ++ gs)).results = [.lit (.bool true)]) (h2 : (s.fn H (ds ++ gs)).args = ds) (h3 : (s.fn H (ds ++ gs)).vars = []) (hE : Ext W W') :
    s.post enc P f apart true false false W args (.bool true) W' := by
  have hW' := hW
  have hlt := hW.lt
  obtain ⟨p, q, hA, hV, rfl, _, _⟩ := hW
  refine ⟨ds, gs, p ++ q, [], p, [], hW', ?_, ?_, ?_, Below.frame hE _, fun h => by cases h⟩
  · rw [h1, hrt]
    exact trodAll_mk1 (shut_bool hb true)
  · rw [h2]
    refine trodAll_stays hl hE _ _ _ _ (fun t ht => ?_) hA (fun x hx => by simpa using hlt x (by simp [hx]))
    have := List.all_eq_true.1 hr t ht
    simpa using this
  · rw [hv, h3]; rfl
end

end Go.Proofs.YtdgalkljngigeaaGreat

/-
Arguments of the common types, opened: numbers, strings, slices of anything.
-/
namespace Go.Proofs.YtdgalkljngigeaaGreat
open Go.RowKit Go.ChangeShapes Go.WideShapes Go.ChangeAt

theorem Tryz.ownG : ownKnob Tryz.prog.godebug = none := by kernel_rfl
theorem Tryz.laidOutG : laidOutB Tryz.prog = true := by kernel_rfl

theorem wfG_u8 {n : Int} (h : (Lit.int .u8 n).wf = true) : 0 ≤ n ∧ n < 256 := by
  simp [Lit.wf, IntKind.min, IntKind.max, IntKind.signed, IntKind.bits] at h; omega
theorem wfG_u16 {n : Int} (h : (Lit.int .u16 n).wf = true) : 0 ≤ n ∧ n < 65536 := by
  simp [Lit.wf, IntKind.min, IntKind.max, IntKind.signed, IntKind.bits] at h; omega
theorem wfG_u32 {n : Int} (h : (Lit.int .u32 n).wf = true) : 0 ≤ n ∧ n < 4294967296 := by
  simp [Lit.wf, IntKind.min, IntKind.max, IntKind.signed, IntKind.bits] at h; omega
theorem wfG_u64 {n : Int} (h : (Lit.int .u64 n).wf = true) : 0 ≤ n ∧ n < 18446744073709551616 := by
  simp [Lit.wf, IntKind.min, IntKind.max, IntKind.signed, IntKind.bits] at h; omega
theorem wfG_i64 {n : Int} (h : (Lit.int .i64 n).wf = true) : -9223372036854775808 ≤ n ∧ n < 9223372036854775808 := by
  simp [Lit.wf, IntKind.min, IntKind.max, IntKind.signed, IntKind.bits] at h; omega

section
variable {H : Type} {enc : TypeId × Value → H} {w : World} {base : Nat} {spare : Nat → Bool} {held : Bool} {r : Reach} {base2 : Nat} {v : Value} {d : DataW H} {ps : List MemPlace}

theorem openG_int {P : Program} {t : TypeId} {k : IntKind} (ht : P.underlying t = some (.int k)) (h : DataW.Trod enc P w base spare held t v d ps) (hv : Value.okWide P w r base2 t v) : ∃ n, v = .int k n ∧ (Lit.int k n).wf = true := by
  obtain ⟨m, rfl⟩ := okWide_int ht hv
  obtain ⟨n, hn⟩ := h
  have hl : Lf enc P w base spare held t (.int k m) := ⟨n, _, hn⟩
  obtain ⟨q, hq, hw⟩ := hl.int ht
  cases hq
  exact ⟨m, rfl, hw⟩
theorem openG_string {P : Program} {t : TypeId} (ht : P.underlying t = some .string) (h : DataW.Trod enc P w base spare held t v d ps) (hv : Value.okWide P w r base2 t v) : ∃ s : ByteArray, v = .string s ∧ s.size ≤ 9223372036854775807 := by
  obtain ⟨m, rfl⟩ := okWide_string ht hv
  obtain ⟨n, hn⟩ := h
  have hl : Lf enc P w base spare held t (.string m) := ⟨n, _, hn⟩
  obtain ⟨q, hq, hw⟩ := hl.string ht
  cases hq
  exact ⟨m, rfl, hw⟩
/-- A slice of anything, opened by its element. -/
theorem openG_slice {α : Type} {f : α → List Value} {p : α → Prop} {P : Program} {T E : TypeId} {k : Nat} (ht : P.underlying T = some (.slice E)) (hk : P.cellsOf E = k) (hk0 : 0 < k)
    (ho : ∀ n xs x, DataW.trod enc P w base spare held n E xs = some x → ∃ a, xs = f a ∧ p a)
    (h : DataW.Trod enc P w base spare held T v d ps) (hv : Value.okWide P w r base2 T v) : ∃ l : List α, Sl w v k (l.map f) ∧ l.length ≤ 9223372036854775807 ∧ ∀ a ∈ l, p a := by
  obtain ⟨a, len, cap, rfl⟩ := okWide_slice ht hv
  obtain ⟨n, hn⟩ := h
  obtain ⟨v', xss, hcs, hsl, hlen, hx⟩ := trod_sl ht hk hk0 hn
  have e : v' = .slice a len cap := by simpa [Value.cells] using hcs.symm
  obtain ⟨l, rfl, hl⟩ := exists_map (f := f) (p := p) xss (fun xs hxs => by
    obtain ⟨_, n, x, h⟩ := hx xs hxs
    exact ho n xs x h)
  rw [e] at hsl
  exact ⟨l, hsl, by simpa using hlen, hl⟩
/-- A nil slice of the arguments is the nil one. -/
theorem openG_nil {P : Program} {T E : TypeId} (ht : P.underlying T = some (.slice E)) (h : DataW.Trod enc P w base spare held T v d ps) (hv : Value.okWide P w r base2 T v) : ∀ len cap, v = .slice none len cap → v = .slice none 0 0 := by
  obtain ⟨a, len, cap, rfl⟩ := okWide_slice ht hv
  obtain ⟨n, hn⟩ := h
  intro l c he
  rcases Go.Deep.open_slice ht hn with ⟨e, _⟩ | ⟨a', len', cap', m, q, D, Pl, e, _⟩
  · simpa [Value.cells] using e
  · simp [Value.cells] at e; obtain ⟨rfl, _⟩ := e; simp at he
end

end Go.Proofs.YtdgalkljngigeaaGreat

/-
The flat types of relations and columns.
-/
namespace Go.Proofs.YtdgalkljngigeaaGreat
open Go.RowKit Go.ChangeShapes Go.WideShapes Go.ChangeAt

theorem Tryz.flatColG : flat Tryz.prog 4 129 = some [9, 5, 4] := by kernel_rfl
theorem Tryz.flatRelG : flat Tryz.prog 4 51 = some [30, 30, 9, 5, 49] := by kernel_rfl
theorem Tryz.cellsColG : Tryz.prog.cellsOf 129 = 3 := by kernel_rfl

end Go.Proofs.YtdgalkljngigeaaGreat
