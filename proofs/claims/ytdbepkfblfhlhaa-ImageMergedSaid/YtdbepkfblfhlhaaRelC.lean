/-
What is wrong with a column: the closure, the library's IndexFunc and ContainsFunc at it, rel.column.
-/
import Derived.Test.YtdbepkfblfhlhaaRelN
import Derived.Test.YtdbepkfblfhlhaaVal
namespace Go.Proofs.Ytdbepkfblfhlhaa
open Go.RowKit

def Col.agg (c : Col) : Value := .agg #[.string c.nm, .int .u8 c.ty, .bool c.key]
/-- A name is the captured column's. -/
def sameNm (c : Col) (o : Col) : Bool := decide (o.nm = c.nm)

set_option maxRecDepth 20000 in set_option maxHeartbeats 400000 in
theorem colf_any (o c : Col) (B : Nat) (w : World) (hc : w.cell? ⟨B, 0, none⟩ = some (.string c.nm)) (hB : B < w.heap.size) :
    Calls Try.prog 129 #[.agg #[.string o.nm, .int .u8 o.ty, .bool o.key], .pointer (some ⟨B, 0, none⟩)] w fun e w' => e = .returned (.bool (sameNm c o)) ∧ Ext w w' := by
  go_enter Try.func129, Try.ntmps129
  go_wp2
  go_ret
  exact ⟨ret_bool (str_beq _ _), by (repeat (with_reducible (first | exact Ext.refl _ | assumption | exact held_left (by assumption) | apply Ext.drewN | apply Ext.drew | apply Ext.alloc | (refine Ext.setCell ?_ (by first | (simp; done) | (simp; omega) | omega) _) | (refine Ext.trans ?_ (by assumption)) | (refine Ext.trans ?_ (held_left (by assumption))))))⟩

def IdxPost {α : Type} (l : List α) (p : α → Bool) (w : World) (e : Ending) (w' : World) : Prop := ∃ i : Int, e = .returned (.int .i64 i) ∧ decide (0 ≤ i) = l.any p ∧ Ext w w'
theorem any_at {α : Type} {l : List α} {p : α → Bool} {k : Nat} (hk : k < l.length) (h : p l[k] = true) : l.any p = true := List.any_eq_true.2 ⟨_, List.getElem_mem hk, h⟩
theorem any_none {α : Type} {l : List α} {p : α → Bool} (h : ∀ i (hi : i < l.length), p l[i] = false) : l.any p = false := by
  rw [List.any_eq_false]
  intro x hx
  obtain ⟨i, hi, rfl⟩ := List.getElem_of_mem hx
  simp [h i hi]

set_option maxRecDepth 100000 in set_option maxHeartbeats 1600000 in
theorem colidx_any (l : List Col) (a : Option Addr) (n cap : Nat) (c : Col) (B : Nat) (w : World) (hn : l.length = n) (hl : Sl w (.slice a n cap) 3 (l.map Col.cells)) (hc : w.cell? ⟨B, 0, none⟩ = some (.string c.nm)) (hB : B < w.heap.size) (hlen : l.length ≤ 1000) :
    Calls Try.prog 160 #[.slice a n cap, .func (.func 129) #[] #[.pointer (some ⟨B, 0, none⟩)]] w (IdxPost l (sameNm c) w) := by
  subst hn
  have HL := Hid.mk' hl
  have HC := Hid.mk' hc
  clear hl hc
  go_enter Try.func160, Try.ntmps160
  go_wp2
  go_loopw [8] (fun i wr => ∃ k : Nat, k ≤ l.length ∧ i = .int .i64 k ∧ Hid (∀ j (hj : j < l.length), j < k → sameNm c l[j] = false) ∧ Hid (Ext w wr)) (fun i _ => l.length - (intOf i).toNat)
  case atStart => exact ⟨0, Nat.zero_le _, rfl, fun j _ h => by omega, Ext.refl _⟩
  case round =>
    obtain ⟨k, hk, rfl, hrel, hE⟩ := hrel
    by_cases hlt : k < l.length
    · obtain ⟨b, o, rfl, hb, hx⟩ := HL.out.at_ (i := k) (by simpa using hlt)
      obtain ⟨f0, f1, f2⟩ := Col.at_ hlt hx hb hE.out
      have hbw : b < wr.heap.size := Nat.lt_of_lt_of_le hb hE.out.size
      have HF := Hid.mk' (fun W (h : Ext wr W) => colf_any l[k] c B W ((hE.out.trans h).cells.1 B _ hB |>.trans HC.out) (Nat.lt_of_lt_of_le hB (hE.out.trans h).size))
      cases hq : sameNm c l[k] with
      | true =>
        rw [hq] at HF
        have HQ := Hid.mk' (any_at hlt hq)
        clear hq hx
        go_wp2_with (go_at_call 129; refine (HF.out _ (by (repeat (with_reducible (first | exact Ext.refl _ | assumption | exact held_left (by assumption) | apply Ext.drewN | apply Ext.drew | apply Ext.alloc | (refine Ext.setCell ?_ (by first | (simp; done) | (simp; omega) | omega) _) | (refine Ext.trans ?_ (by assumption)) | (refine Ext.trans ?_ (held_left (by assumption)))))))).mono ?_; rintro e w1 ⟨rfl, hb1⟩)
        go_ret
        exact ⟨_, rfl, by rw [HQ.out]; simp, hE.out.trans (by (repeat (with_reducible (first | exact Ext.refl _ | assumption | exact held_left (by assumption) | apply Ext.drewN | apply Ext.drew | apply Ext.alloc | (refine Ext.setCell ?_ (by first | (simp; done) | (simp; omega) | omega) _) | (refine Ext.trans ?_ (by assumption)) | (refine Ext.trans ?_ (held_left (by assumption)))))))⟩
      | false =>
        rw [hq] at HF
        have HQ := Hid.mk' hq
        clear hq hx
        go_wp2_with (go_at_call 129; refine (HF.out _ (by (repeat (with_reducible (first | exact Ext.refl _ | assumption | exact held_left (by assumption) | apply Ext.drewN | apply Ext.drew | apply Ext.alloc | (refine Ext.setCell ?_ (by first | (simp; done) | (simp; omega) | omega) _) | (refine Ext.trans ?_ (by assumption)) | (refine Ext.trans ?_ (held_left (by assumption)))))))).mono ?_; rintro e w1 ⟨rfl, hb1⟩)
        go_roundw
        case rel => exact ⟨k + 1, by omega, by go_num, fun j hj hjk => by
          by_cases e : j = k
          · subst e; exact HQ.out
          · exact hrel.out j hj (by omega), Hid.mk' (hE.out.trans (by (repeat (with_reducible (first | exact Ext.refl _ | assumption | exact held_left (by assumption) | apply Ext.drewN | apply Ext.drew | apply Ext.alloc | (refine Ext.setCell ?_ (by first | (simp; done) | (simp; omega) | omega) _) | (refine Ext.trans ?_ (by assumption)) | (refine Ext.trans ?_ (held_left (by assumption))))))))⟩
        case measure => simp [intOf]; omega
    · have hkk : k = l.length := by omega
      have HQ := Hid.mk' (any_none (p := sameNm c) fun j hj => hrel.out j hj (by omega))
      subst hkk
      go_wp2
      go_ret
      exact ⟨_, rfl, by rw [HQ.out]; simp, hE.out⟩

set_option maxRecDepth 20000 in set_option maxHeartbeats 400000 in
theorem colhas_any (l : List Col) (a : Option Addr) (n cap : Nat) (c : Col) (B : Nat) (w : World) (hn : l.length = n) (hl : Sl w (.slice a n cap) 3 (l.map Col.cells)) (hc : w.cell? ⟨B, 0, none⟩ = some (.string c.nm)) (hB : B < w.heap.size) (hlen : l.length ≤ 1000) :
    Calls Try.prog 128 #[.slice a n cap, .func (.func 129) #[] #[.pointer (some ⟨B, 0, none⟩)]] w fun e w' => e = .returned (.bool (l.any (sameNm c))) ∧ Ext w w' := by
  have HI := Hid.mk' (colidx_any l a n cap c B w hn hl hc hB hlen)
  clear hl hc
  go_enter Try.func128, Try.ntmps128
  go_wp2_with (go_at_call 160; refine HI.out.mono ?_; rintro e w1 ⟨i, rfl, hi, hb1⟩; have HI2 := Hid.mk' hi; clear hi)
  go_ret
  exact ⟨ret_bool HI2.out, hb1⟩

set_option maxRecDepth 100000 in set_option maxHeartbeats 1600000 in
theorem column_any (c : Col) (l : List Col) (a : Option Addr) (n cap : Nat) (w : World) (hn : l.length = n) (hl : Sl w (.slice a n cap) 3 (l.map Col.cells)) (hlen : l.length ≤ 1000) (hs : c.nm.size ≤ 9223372036854775807) :
    Calls Try.prog 95 #[.agg #[.string c.nm, .int .u8 c.ty, .bool c.key], .slice a n cap] w fun e w' => e = .returned (.int .i64 (colE c l)) ∧ Ext w w' := by
  have HN := Hid.mk' (fun w => named_any c.nm w hs)
  have HH := Hid.mk' (fun W (h : Ext w W) (B : Nat) hc hB => colhas_any l a n cap c B W hn (hl.ext h) hc hB hlen)
  have HE := Hid.mk' (show colE c l = if namedB c.nm = false then 3 else if l.any (sameNm c) = true then 9 else if c.ty < 1 ∨ 6 < c.ty then 11 else 0 from rfl)
  clear hl
  cases h1 : namedB c.nm with
  | false =>
    rw [h1] at HN HE
    clear h1
    go_enter Try.func95, Try.ntmps95
    go_wp2_with (go_at_call 94; refine (HN.out _).mono ?_; rintro e w1 ⟨rfl, rfl⟩)
    go_ret
    exact ⟨ret_int (by rw [HE.out]; simp), by (repeat (with_reducible (first | exact Ext.refl _ | assumption | exact held_left (by assumption) | apply Ext.drewN | apply Ext.drew | apply Ext.alloc | (refine Ext.setCell ?_ (by first | (simp; done) | (simp; omega) | omega) _) | (refine Ext.trans ?_ (by assumption)) | (refine Ext.trans ?_ (held_left (by assumption))))))⟩
  | true =>
    rw [h1] at HN HE
    clear h1
    cases h2 : l.any (sameNm c) with
    | true =>
      rw [h2] at HH HE
      clear h2
      go_enter Try.func95, Try.ntmps95
      go_wp2_with (first
        | (go_at_call 94; refine (HN.out _).mono ?_; rintro e w1 ⟨rfl, rfl⟩)
        | (go_at_call 128; refine (HH.out _ (by (repeat (with_reducible (first | exact Ext.refl _ | assumption | exact held_left (by assumption) | apply Ext.drewN | apply Ext.drew | apply Ext.alloc | (refine Ext.setCell ?_ (by first | (simp; done) | (simp; omega) | omega) _) | (refine Ext.trans ?_ (by assumption)) | (refine Ext.trans ?_ (held_left (by assumption))))))) _ (by simp) (by simp)).mono ?_; rintro e w2 ⟨rfl, hb2⟩; have hE2 : Ext w w2 := (by (repeat (with_reducible (first | exact Ext.refl _ | assumption | exact held_left (by assumption) | apply Ext.drewN | apply Ext.drew | apply Ext.alloc | (refine Ext.setCell ?_ (by first | (simp; done) | (simp; omega) | omega) _) | (refine Ext.trans ?_ (by assumption)) | (refine Ext.trans ?_ (held_left (by assumption)))))))))
      go_ret
      exact ⟨ret_int (by rw [HE.out]; simp), hE2⟩
    | false =>
      rw [h2] at HH HE
      clear h2
      by_cases h3 : c.ty < 1
      · have HR := Hid.mk' (HE.out.trans (by rw [if_neg (by simp), if_neg (by simp), if_pos (.inl h3)]))
        clear HE
        go_enter Try.func95, Try.ntmps95
        go_wp2_with (first
          | (go_at_call 94; refine (HN.out _).mono ?_; rintro e w1 ⟨rfl, rfl⟩)
          | (go_at_call 128; refine (HH.out _ (by (repeat (with_reducible (first | exact Ext.refl _ | assumption | exact held_left (by assumption) | apply Ext.drewN | apply Ext.drew | apply Ext.alloc | (refine Ext.setCell ?_ (by first | (simp; done) | (simp; omega) | omega) _) | (refine Ext.trans ?_ (by assumption)) | (refine Ext.trans ?_ (held_left (by assumption))))))) _ (by simp) (by simp)).mono ?_; rintro e w2 ⟨rfl, hb2⟩; have hE2 : Ext w w2 := (by (repeat (with_reducible (first | exact Ext.refl _ | assumption | exact held_left (by assumption) | apply Ext.drewN | apply Ext.drew | apply Ext.alloc | (refine Ext.setCell ?_ (by first | (simp; done) | (simp; omega) | omega) _) | (refine Ext.trans ?_ (by assumption)) | (refine Ext.trans ?_ (held_left (by assumption))))))); have hk := ((Blk.new w #[.string c.nm, .int .u8 c.ty, .bool c.key] 126).ext hb2).cell))
        go_ret
        exact ⟨ret_int HR.out.symm, hE2⟩
      · by_cases h4 : 6 < c.ty
        · have HR := Hid.mk' (HE.out.trans (by rw [if_neg (by simp), if_neg (by simp), if_pos (.inr h4)]))
          clear HE
          go_enter Try.func95, Try.ntmps95
          go_wp2_with (first
            | (go_at_call 94; refine (HN.out _).mono ?_; rintro e w1 ⟨rfl, rfl⟩)
            | (go_at_call 128; refine (HH.out _ (by (repeat (with_reducible (first | exact Ext.refl _ | assumption | exact held_left (by assumption) | apply Ext.drewN | apply Ext.drew | apply Ext.alloc | (refine Ext.setCell ?_ (by first | (simp; done) | (simp; omega) | omega) _) | (refine Ext.trans ?_ (by assumption)) | (refine Ext.trans ?_ (held_left (by assumption))))))) _ (by simp) (by simp)).mono ?_; rintro e w2 ⟨rfl, hb2⟩; have hE2 : Ext w w2 := (by (repeat (with_reducible (first | exact Ext.refl _ | assumption | exact held_left (by assumption) | apply Ext.drewN | apply Ext.drew | apply Ext.alloc | (refine Ext.setCell ?_ (by first | (simp; done) | (simp; omega) | omega) _) | (refine Ext.trans ?_ (by assumption)) | (refine Ext.trans ?_ (held_left (by assumption))))))); have hk := ((Blk.new w #[.string c.nm, .int .u8 c.ty, .bool c.key] 126).ext hb2).cell))
          go_ret
          exact ⟨ret_int HR.out.symm, hE2⟩
        · have HR := Hid.mk' (HE.out.trans (by rw [if_neg (by simp), if_neg (by simp), if_neg (by omega)]))
          clear HE
          go_enter Try.func95, Try.ntmps95
          go_wp2_with (first
            | (go_at_call 94; refine (HN.out _).mono ?_; rintro e w1 ⟨rfl, rfl⟩)
            | (go_at_call 128; refine (HH.out _ (by (repeat (with_reducible (first | exact Ext.refl _ | assumption | exact held_left (by assumption) | apply Ext.drewN | apply Ext.drew | apply Ext.alloc | (refine Ext.setCell ?_ (by first | (simp; done) | (simp; omega) | omega) _) | (refine Ext.trans ?_ (by assumption)) | (refine Ext.trans ?_ (held_left (by assumption))))))) _ (by simp) (by simp)).mono ?_; rintro e w2 ⟨rfl, hb2⟩; have hE2 : Ext w w2 := (by (repeat (with_reducible (first | exact Ext.refl _ | assumption | exact held_left (by assumption) | apply Ext.drewN | apply Ext.drew | apply Ext.alloc | (refine Ext.setCell ?_ (by first | (simp; done) | (simp; omega) | omega) _) | (refine Ext.trans ?_ (by assumption)) | (refine Ext.trans ?_ (held_left (by assumption))))))); have hk := ((Blk.new w #[.string c.nm, .int .u8 c.ty, .bool c.key] 126).ext hb2).cell))
          go_ret
          exact ⟨ret_int HR.out.symm, hE2⟩

end Go.Proofs.Ytdbepkfblfhlhaa
