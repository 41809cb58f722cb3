/-
A new image with what was the same: the program's image.Merge, the reference's.
-/
import Derived.Test.YtdbepkfblfhlhaaRefImg
namespace Go.Proofs.Ytdbepkfblfhlhaa
open Go.RowKit

/-- The first k of a row merged. -/
def mergeTo (b l : List K) (k : Nat) : List K := l.mapIdx fun i c => if i < k ∧ c.k = 1 then (b[i]?).getD c else c
theorem mergeTo_len {b l : List K} {k : Nat} : (mergeTo b l k).length = l.length := by simp [mergeTo]
theorem mergeTo_get {b l : List K} {k i : Nat} (h : i < (mergeTo b l k).length) : (mergeTo b l k)[i] = if i < k ∧ (l[i]'(by rw [mergeTo_len] at h; exact h)).k = 1 then (b[i]?).getD (l[i]'(by rw [mergeTo_len] at h; exact h)) else l[i]'(by rw [mergeTo_len] at h; exact h) := by simp [mergeTo]
theorem mergeTo_zero {b l : List K} : mergeTo b l 0 = l := by
  apply List.ext_getElem
  · rw [mergeTo_len]
  · intro i h1 h2; rw [mergeTo_get, if_neg (by omega)]
theorem mergeTo_all {b l : List K} : mergeTo b l l.length = mergeK b l := by
  apply List.ext_getElem
  · rw [mergeTo_len, mergeK_len]
  · intro i h1 h2
    have hi : i < l.length := by rwa [mergeTo_len] at h1
    rw [mergeTo_get, mergeK_get]
    by_cases h : l[i].k = 1
    · rw [if_pos ⟨hi, h⟩, if_pos h]
    · rw [if_neg (fun q => h q.2), if_neg h]
theorem mergeTo_at {b l : List K} {k : Nat} (h : k < (mergeTo b l k).length) : (mergeTo b l k)[k] = l[k]'(by rwa [mergeTo_len] at h) := by rw [mergeTo_get, if_neg (by omega)]
theorem mergeTo_skip {b l : List K} {k : Nat} (hk : k < l.length) (h : ¬ (l[k].k = 1 ∧ k < b.length)) : mergeTo b l (k + 1) = mergeTo b l k := by
  apply List.ext_getElem
  · rw [mergeTo_len, mergeTo_len]
  · intro i h1 h2
    rw [mergeTo_get, mergeTo_get]
    by_cases e : i = k
    · subst e
      rw [if_neg (fun q : i < i ∧ _ => by omega)]
      by_cases h1 : l[i].k = 1
      · rw [if_pos ⟨by omega, h1⟩, List.getElem?_eq_none (by have : ¬ i < b.length := fun q => h ⟨h1, q⟩; omega)]; rfl
      · rw [if_neg (fun q => h1 q.2)]
    · by_cases h3 : i < k ∧ (l[i]'(by rwa [mergeTo_len] at h1)).k = 1
      · rw [if_pos h3, if_pos ⟨by omega, h3.2⟩]
      · rw [if_neg h3, if_neg (fun q => h3 ⟨by omega, q.2⟩)]
theorem mergeTo_set {b l : List K} {k : Nat} (hk : k < l.length) (h : l[k].k = 1) (hb : k < b.length) : mergeTo b l (k + 1) = (mergeTo b l k).set k b[k] := by
  apply List.ext_getElem
  · rw [mergeTo_len, List.length_set, mergeTo_len]
  · intro i h1 h2
    rw [mergeTo_get]
    by_cases e : i = k
    · subst e
      rw [if_pos ⟨by omega, h⟩, List.getElem_set_self, List.getElem?_eq_getElem hb]; rfl
    · rw [List.getElem_set_ne (Ne.symm e), mergeTo_get]
      by_cases h3 : i < k ∧ (l[i]'(by rwa [mergeTo_len] at h1)).k = 1
      · rw [if_pos h3, if_pos ⟨by omega, h3.2⟩]
      · rw [if_neg h3, if_neg (fun q => h3 ⟨by omega, q.2⟩)]

theorem flatK_len (l : List K) : (l.map K.pc).flatten.length = l.length * 5 := by
  have := flat_length 5 (l.map K.pc) (fun xs hxs => by simp at hxs; obtain ⟨c, _, rfl⟩ := hxs; rfl)
  rwa [List.length_map] at this
theorem news_row {w : World} {b o : Nat} {l : List K} (h : ∀ i, i < l.length → ∀ j, j < 5 → w.cell? ⟨b, o + i * 5 + j, none⟩ = ((l.map K.pc).getD i [])[j]?) : ∀ j u, ((l.map K.pc).flatten)[j]? = some u → w.cell? ((⟨b, o, none⟩ : Addr).add j) = some u := by
  intro j u hj
  have hjl : j < l.length * 5 := by
    rcases Nat.lt_or_ge j (l.length * 5) with h | h
    · exact h
    · rw [List.getElem?_eq_none (by rw [flatK_len]; exact h)] at hj; cases hj
  have hplain : (⟨b, o, none⟩ : Addr).add j = ⟨b, o + j, none⟩ := by unfold Addr.add; split <;> simp_all
  have hi : j / 5 < l.length := by omega
  have hq := flat_get 5 (l.map K.pc) (fun xs hxs => by simp at hxs; obtain ⟨c, _, rfl⟩ := hxs; rfl) (j / 5) (by simpa using hi) (j % 5) (Nat.mod_lt _ (by decide))
  have hm : j / 5 * 5 + j % 5 = j := by omega
  rw [hm] at hq
  rw [hplain, ← hj, hq, ← h (j / 5) hi (j % 5) (Nat.mod_lt _ (by decide)), Nat.add_assoc, hm]

set_option maxRecDepth 100000 in set_option maxHeartbeats 1600000 in
theorem clonek_any (l : List K) (a : Option Addr) (cap : Nat) (w : World) (hl : Sl w (.slice a l.length cap) 5 (l.map K.pc)) (hlen : l.length ≤ 1000) :
    Calls Try.prog 75 #[.slice a l.length cap] w fun e w' => ∃ a' cap', e = .returned (.slice a' l.length cap') ∧ w'.ownsRow w.heap.size 78 5 (.slice a' l.length cap') l.length ((l.map K.pc).flatten) ∧ Ext w w' := by
  obtain ⟨i0, hi, hz0, hz1, hz2⟩ := info_parts Try.infoCellP
  have HL := Hid.mk' hl
  clear hl
  cases a with
  | none =>
    have h0 : l = [] := by
      obtain ⟨a, c, hv, h⟩ := HL.out
      simp only [Value.slice.injEq] at hv
      rcases h with h | ⟨b, o, ha, _⟩
      · simpa using h
      · rw [← hv.1] at ha; cases ha
    obtain ⟨a, c, hv, -⟩ := HL.out
    subst h0
    clear HL hv
    go_enter Try.func75, Try.ntmps75
    go_wp2
    go_ret
    exact ⟨_, _, rfl, World.ownsRow_nil _ _ _ _, by (repeat (with_reducible (first | exact Ext.refl _ | assumption | exact held_left (by assumption) | apply Ext.drewN | apply Ext.drew | apply Ext.alloc | (refine Ext.setCell ?_ (by first | (simp; done) | (simp; omega) | omega) _) | (refine Ext.trans ?_ (by assumption)) | (refine Ext.trans ?_ (held_left (by assumption))))))⟩
  | some ad =>
    have hnews : ∀ j u, ((l.map K.pc).flatten)[j]? = some u → (w.alloc (.cells #[] 78)).cell? (ad.add j) = some u := by
      obtain ⟨a, c, hv, h⟩ := HL.out
      simp only [Value.slice.injEq] at hv
      obtain ⟨rfl, -, -⟩ := hv
      rcases h with h | ⟨b, o, ha, hb, hc⟩
      · have h0 : l = [] := by simpa using h
        subst h0; intro j u hj; simp at hj
      · cases ha
        refine news_row fun i hi j hj => ?_
        have hE : Ext w (w.alloc (.cells #[] 78)) := (Ext.refl w).alloc _
        rw [hE.cells.1 b _ hb]
        exact hc i (by simpa using hi) j hj
    have HN := Hid.mk' hnews
    clear HL hnews
    go_enter Try.func75, Try.ntmps75
    go_wp2_with (at_builtin; refine wpList_append_own _ rfl _ _ 33 rfl w.heap.size 78 i0 _ 5 56 Try.underlying33 hi hz0 hz1 hz2 rfl (by decide) (.slice (some ⟨w.heap.size, 0, none⟩) 0 0) 0 [] rfl ?c0 _ l.length _ ((l.map K.pc).flatten) rfl (flatK_len l) HN.out ?c2 ?c3 ?c4 ?c5 ?_)
    case c0 => exact ⟨rfl, .inr ⟨_, 0, #[], rfl, Nat.le_refl _, Blk.new w #[] _, Nat.le_refl _, Nat.zero_le _, rfl, rfl⟩⟩
    case c2 => intro u hu; rw [List.mem_flatten] at hu; obtain ⟨xs, hxs, hu⟩ := hu; rw [List.mem_map] at hxs; obtain ⟨c, _, rfl⟩ := hxs; simp [K.pc] at hu; rcases hu with rfl | rfl | rfl | rfl | rfl <;> rfl
    case c3 => unfold maxLen; omega
    case c4 => omega
    case c5 => simp
    intro v' w2 hown hgrow _
    have hown : w2.ownsRow w.heap.size 78 5 v' l.length ((l.map K.pc).flatten) := by simpa using hown
    have hE2 : Ext w w2 := ((Ext.refl w).alloc (.cells #[] 78)).grown (v := .slice (some ⟨w.heap.size, 0, none⟩) 0 0) (e := 78) (size := 5) (n := 0) (xs := []) ⟨rfl, .inr ⟨_, 0, #[], rfl, Nat.le_refl _, Blk.new w #[] _, Nat.le_refl _, Nat.zero_le _, rfl, rfl⟩⟩ hgrow
    obtain ⟨a', c', rfl⟩ := owns_shape hown
    have HO := Hid.mk' hown
    have HE2 := Hid.mk' hE2
    clear hown hE2 hgrow
    go_wp2
    go_ret
    exact ⟨a', c', rfl, HO.out, HE2.out⟩

set_option maxRecDepth 100000 in set_option maxHeartbeats 4000000 in
theorem merge_any (lb l : List K) (ab a : Option Addr) (cb cap : Nat) (w : World) (hb : Sl w (.slice ab lb.length cb) 5 (lb.map K.pc)) (hl : Sl w (.slice a l.length cap) 5 (l.map K.pc)) (hlb : lb.length ≤ 1000) (hlen : l.length ≤ 1000) :
    Calls Try.prog 35 #[.slice ab lb.length cb, .slice a l.length cap] w fun e w' => ∃ a' cap', e = .returned (.slice a' l.length cap') ∧ l.length ≤ cap' ∧ Sl w' (.slice a' l.length cap') 5 ((mergeK lb l).map K.pc) ∧ Ext w w' := by
  have HC := Hid.mk' (fun W (h : Ext w W) => clonek_any l a cap W (hl.ext h) hlen)
  have HB := Hid.mk' hb
  clear hb hl
  by_cases h0 : l.length = 0
  · have hl0 : l = [] := List.length_eq_zero_iff.1 h0
    subst hl0
    clear h0
    go_enter Try.func35, Try.ntmps35
    go_wp2_with (go_at_call 75; refine (HC.out _ (by (repeat (with_reducible (first | exact Ext.refl _ | assumption | exact held_left (by assumption) | apply Ext.drewN | apply Ext.drew | apply Ext.alloc | (refine Ext.setCell ?_ (by first | (simp; done) | (simp; omega) | omega) _) | (refine Ext.trans ?_ (by assumption)) | (refine Ext.trans ?_ (held_left (by assumption)))))))).mono ?_; rintro e w1 ⟨a', c', rfl, ho, hb1⟩; clear ho)
    go_loopw [12] (fun i wr => i = .int .i64 0 ∧ Hid (Ext w wr)) (fun _ _ => 0)
    case atStart => exact ⟨rfl, Hid.mk' (by (repeat (with_reducible (first | exact Ext.refl _ | assumption | exact held_left (by assumption) | apply Ext.drewN | apply Ext.drew | apply Ext.alloc | (refine Ext.setCell ?_ (by first | (simp; done) | (simp; omega) | omega) _) | (refine Ext.trans ?_ (by assumption)) | (refine Ext.trans ?_ (held_left (by assumption)))))))⟩
    case round =>
      obtain ⟨rfl, hE⟩ := hrel
      go_wp2
      go_ret
      exact ⟨a', c', rfl, Nat.zero_le _, ⟨a', c', rfl, .inl rfl⟩, hE.out⟩
  go_enter Try.func35, Try.ntmps35
  go_wp2_with (go_at_call 75; refine (HC.out _ (by (repeat (with_reducible (first | exact Ext.refl _ | assumption | exact held_left (by assumption) | apply Ext.drewN | apply Ext.drew | apply Ext.alloc | (refine Ext.setCell ?_ (by first | (simp; done) | (simp; omega) | omega) _) | (refine Ext.trans ?_ (by assumption)) | (refine Ext.trans ?_ (held_left (by assumption)))))))).mono ?_; rintro e w1 ⟨a', c', rfl, ho, hb1⟩; have HO := Hid.mk' ho; clear ho)
  obtain ⟨g, rfl, hg, hcap⟩ : ∃ g, a' = some ⟨g, 0, none⟩ ∧ w.heap.size ≤ g ∧ l.length ≤ c' := by
    rcases HO.out.2 with ⟨-, h1⟩ | ⟨g, cap', cur, hv, hg, -, hn, -⟩
    · exact absurd h1 h0
    · simp only [Value.slice.injEq] at hv
      exact ⟨g, hv.1, hg, owns_cap HO.out⟩
  have HR0 := Hid.mk' (RowAt.of_owns HO.out rfl)
  clear HO
  go_loopw [12] (fun i wr => ∃ k : Nat, k ≤ l.length ∧ i = .int .i64 k ∧ Hid (RowAt wr g (mergeTo lb l k)) ∧ Hid (Ext w wr)) (fun i _ => l.length - (intOf i).toNat)
  case atStart => exact ⟨0, Nat.zero_le _, rfl, Hid.mk' (by rw [mergeTo_zero]; exact HR0.out), Hid.mk' (by (repeat (with_reducible (first | exact Ext.refl _ | assumption | exact held_left (by assumption) | apply Ext.drewN | apply Ext.drew | apply Ext.alloc | (refine Ext.setCell ?_ (by first | (simp; done) | (simp; omega) | omega) _) | (refine Ext.trans ?_ (by assumption)) | (refine Ext.trans ?_ (held_left (by assumption)))))))⟩
  case round =>
    obtain ⟨k, hk, rfl, hr, hE⟩ := hrel
    by_cases hlt : k < l.length
    · have hkm : k < (mergeTo lb l k).length := by rw [mergeTo_len]; exact hlt
      obtain ⟨f0, f1, f2, f3, f4⟩ := hr.out.cells hkm
      rw [mergeTo_at] at f0 f1 f2 f3 f4
      have hgw := hr.out.lt
      have hfz := hr.out.frozen
      have HSK := Hid.mk' (fun h => mergeTo_skip (b := lb) hlt h)
      have HST := Hid.mk' (fun h h2 => mergeTo_set (b := lb) hlt h h2)
      obtain ⟨c, hc⟩ : ∃ c, c = l[k] := ⟨_, rfl⟩
      rw [← hc] at f0 f1 f2 f3 f4 HSK HST
      clear hc
      by_cases h1 : c.k = 1
      · have h1' : (c.k == 1) = true := by simpa using h1
        by_cases h2 : k < lb.length
        · obtain ⟨b, o, rfl, hbb, hx⟩ := HB.out.at_ (i := k) (by simpa using h2)
          obtain ⟨p0, p1, p2, p3, p4⟩ := K.pcAt h2 hx hbb hE.out
          have hbw : b < wr.heap.size := Nat.lt_of_lt_of_le hbb hE.out.size
          have HS2 := Hid.mk' (HST.out h1 h2)
          obtain ⟨d, hd⟩ : ∃ d, d = lb[k] := ⟨_, rfl⟩
          rw [← hd] at p0 p1 p2 p3 p4 HS2
          clear hd hx h1 HSK HST
          go_wp2
          go_roundw
          case rel => exact ⟨k + 1, by omega, by go_num, Hid.mk' (by rw [HS2.out]; exact (hr.out.set hkm d).alloc _), Hid.mk' (by have hE := hE.out; (repeat (with_reducible (first | exact Ext.refl _ | assumption | exact held_left (by assumption) | apply Ext.drewN | apply Ext.drew | apply Ext.alloc | (refine Ext.setCell ?_ (by first | (simp; done) | (simp; omega) | omega) _) | (refine Ext.trans ?_ (by assumption)) | (refine Ext.trans ?_ (held_left (by assumption)))))))⟩
          case measure => simp [intOf]; omega
        · have HS2 := Hid.mk' (HSK.out (fun q => h2 q.2))
          have h2' : lb.length ≤ k := by omega
          clear HSK HST h1
          go_wp2
          go_roundw
          case rel => exact ⟨k + 1, by omega, by go_num, Hid.mk' (by rw [HS2.out]; exact hr.out.alloc _), Hid.mk' (by have hE := hE.out; (repeat (with_reducible (first | exact Ext.refl _ | assumption | exact held_left (by assumption) | apply Ext.drewN | apply Ext.drew | apply Ext.alloc | (refine Ext.setCell ?_ (by first | (simp; done) | (simp; omega) | omega) _) | (refine Ext.trans ?_ (by assumption)) | (refine Ext.trans ?_ (held_left (by assumption)))))))⟩
          case measure => simp [intOf]; omega
      · have h1' : (c.k == 1) = false := by simpa using h1
        have HS2 := Hid.mk' (HSK.out (fun q => h1 q.1))
        clear HSK HST h1
        go_wp2
        go_roundw
        case rel => exact ⟨k + 1, by omega, by go_num, Hid.mk' (by rw [HS2.out]; exact hr.out.alloc _), Hid.mk' (by have hE := hE.out; (repeat (with_reducible (first | exact Ext.refl _ | assumption | exact held_left (by assumption) | apply Ext.drewN | apply Ext.drew | apply Ext.alloc | (refine Ext.setCell ?_ (by first | (simp; done) | (simp; omega) | omega) _) | (refine Ext.trans ?_ (by assumption)) | (refine Ext.trans ?_ (held_left (by assumption)))))))⟩
        case measure => simp [intOf]; omega
    · have hkk : k = l.length := by omega
      subst hkk
      go_wp2
      go_ret
      have hr := hr.out
      rw [mergeTo_all] at hr
      have := hr.sl c'
      rw [mergeK_len] at this
      exact ⟨_, c', rfl, hcap, this, hE.out⟩

end Go.Proofs.Ytdbepkfblfhlhaa
