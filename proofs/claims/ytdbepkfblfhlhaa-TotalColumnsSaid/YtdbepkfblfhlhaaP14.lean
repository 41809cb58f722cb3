/-
The next row of a relation: the reference's Take.
-/
import Derived.ProofKit
import Derived.OpenShut
import Derived.Deep.Slices
import Derived.Carry
import Derived.Test.YtdbepkfblfhlhaaP13
namespace Go.Proofs.Ytdbepkfblfhlhaa
open Go.RowKit

theorem owns_six {W : World} {base X : Nat} {e : TypeId} {size n : Nat} {v : Value} {xs : List Value} {v0 v1 v2 v3 v4 v5 : Value} (h : W.ownsRow base e size v n xs) (hX : ∀ k, v.ownBlock = some k → k ≠ X) :
    ((((((W.setCell ⟨X, 0, none⟩ v0).setCell ⟨X, 1, none⟩ v1).setCell ⟨X, 2, none⟩ v2).setCell ⟨X, 3, none⟩ v3).setCell ⟨X, 4, none⟩ v4).setCell ⟨X, 5, none⟩ v5).ownsRow base e size v n xs :=
  owns_far (owns_five h hX) hX _ _
theorem sl_bytesWorld (w : World) (s : ByteArray) (c : Nat) : Sl (Go.Lib.bytesWorld w 5 s) (.slice (some ⟨w.heap.size, 0, none⟩) s.size c) 1 ((strL s).map bcell) := by
  refine ⟨_, c, by rw [List.length_map, strL_len], .inr ⟨w.heap.size, 0, rfl, by rw [Go.Lib.bytesWorld_size]; omega, fun i hi j hj => ?_⟩⟩
  obtain rfl : j = 0 := by omega
  rw [List.length_map, strL_len] at hi
  rw [Nat.zero_add, Nat.mul_one, Nat.add_zero, Go.Lib.bytesWorld_cell w _ s i hi, getD_map bcell (strL s) (by rw [strL_len]; exact hi)]
  have h : i < s.data.toList.length := by simpa using hi
  have h2 : i < s.data.size := by simpa using h
  simp [strL, bcell]
  rw [Array.getElem?_eq_getElem h2]
  rfl
def RTkPost (R : (List K × List Ho) × RS) (g d : Nat) (w : World) (e : Ending) (w' : World) : Prop :=
  ∃ a1 c1 a2 c2, e = .returned (.tuple #[.slice a1 R.1.1.length c1, .slice a2 R.1.2.length c2]) ∧ Sl w' (.slice a1 R.1.1.length c1) 6 (R.1.1.map K.rc) ∧ Sl w' (.slice a2 R.1.2.length c2) 2 (R.1.2.map Ho.cells) ∧
    (∀ k o, a1 = some ⟨k, o, none⟩ → w.heap.size ≤ k) ∧ (∀ k o, a2 = some ⟨k, o, none⟩ → w.heap.size ≤ k) ∧ RF w' g d R.2 ∧ Tch g w w'
theorem RTkPost.bad {R : (List K × List Ho) × RS} {S : RS} {g d : Nat} {w w' : World} (h : R = (([], []), S)) (hr : RF w' g d S) (ht : Tch g w w') : RTkPost R g d w (.returned (.tuple #[.slice none 0 0, .slice none 0 0])) w' := by
  subst h
  exact ⟨none, 0, none, 0, rfl, ⟨none, 0, rfl, .inl rfl⟩, ⟨none, 0, rfl, .inl rfl⟩, (fun _ _ e => by cases e), (fun _ _ e => by cases e), hr, ht⟩
theorem rc_len {l : List K} : ∀ xs ∈ l.map K.rc, xs.length = 6 := by intro xs hxs; simp at hxs; obtain ⟨a, _, rfl⟩ := hxs; rfl

set_option maxRecDepth 100000 in set_option maxHeartbeats 16000000 in
theorem rrowtake_any (g d : Nat) (st : RS) (oid ver : Int) (nm : ByteArray) (id : Int) (cols : List Col) (a2 : Option Addr) (cap2 : Nat) (version : Int) (w : World) (h : RF w g d st) (hl2 : Sl w (.slice a2 cols.length cap2) 3 (cols.map Col.cells)) (ha2 : ∀ b o, a2 = some ⟨b, o, none⟩ → cols ≠ [] → b ≠ g)
    (hlen2 : cols.length ≤ 1000) (hs2 : ∀ c ∈ cols, c.nm.size ≤ 9223372036854775807) (hnm : nm.size ≤ 9223372036854775807) :
    Calls Try.prog 51 #[.pointer (some ⟨g, 0, none⟩), .agg #[.int .u32 oid, .int .u32 ver, .string nm, .int .u8 id, .slice a2 cols.length cap2], .int .u8 version] w (RTkPost (takeT (⟨oid, ver, nm, id, cols⟩ : Rl) version st) g d w) := by
  have hg := h.lt
  have hok := h.ok
  have H := Hid.mk' h
  have HR8 := Hid.mk' (fun W (h : Ext w W) => rright8_any oid ver nm id cols a2 cap2 W (hl2.ext h) hlen2 hnm hs2)
  have HGU := Hid.mk' (fun S x w h hx => fgive_any g d S x w h hx)
  have HTP : Hid (takeT (⟨oid, ver, nm, id, cols⟩ : Rl) version st = _) := Hid.mk' (show takeT (⟨oid, ver, nm, id, cols⟩ : Rl) version st = if (begR (⟨oid, ver, nm, id, cols⟩ : Rl) version st).e ≠ 0 then (([], []), begR (⟨oid, ver, nm, id, cols⟩ : Rl) version st) else if (bytesR (mapSize cols.length) (begR (⟨oid, ver, nm, id, cols⟩ : Rl) version st)).2.e ≠ 0 then (([], []), (bytesR (mapSize cols.length) (begR (⟨oid, ver, nm, id, cols⟩ : Rl) version st)).2)
    else finT (tkUp (unmapL (bytesR (mapSize cols.length) (begR (⟨oid, ver, nm, id, cols⟩ : Rl) version st)).1 cols.length).1 cols version (failS (bytesR (mapSize cols.length) (begR (⟨oid, ver, nm, id, cols⟩ : Rl) version st)).2 (unmapL (bytesR (mapSize cols.length) (begR (⟨oid, ver, nm, id, cols⟩ : Rl) version st)).1 cols.length).2) (unmapL (bytesR (mapSize cols.length) (begR (⟨oid, ver, nm, id, cols⟩ : Rl) version st)).1 cols.length).1.length) from rfl)
  have HBR : Hid (begR (⟨oid, ver, nm, id, cols⟩ : Rl) version st = if version = 1 ∨ version = 2 then failS st (Rl.right (⟨oid, ver, nm, id, cols⟩ : Rl)) else giveS (failS st (Rl.right (⟨oid, ver, nm, id, cols⟩ : Rl))) 18) := Hid.mk' rfl
  have HC16 := Hid.mk' (right_cols16 (r := (⟨oid, ver, nm, id, cols⟩ : Rl)))
  have HL2 := Hid.mk' hl2
  clear h hl2 hs2 hnm
  obtain ⟨E, hE⟩ : ∃ E, E = Rl.right (⟨oid, ver, nm, id, cols⟩ : Rl) := ⟨_, rfl⟩
  rw [← hE] at HR8 HBR HC16
  clear hE
  by_cases hv : version = 1 ∨ version = 2
  case neg =>
    have HB2 := Hid.mk' (HBR.out.trans (if_neg hv))
    have hne : (begR (⟨oid, ver, nm, id, cols⟩ : Rl) version st).e ≠ 0 := by rw [HB2.out]; exact give_bad _ (by decide)
    have HT2 := Hid.mk' (HTP.out.trans (if_pos hne))
    rw [HB2.out] at HT2 hne
    have hv1 : (version != 1) = true := by simp; omega
    have hv2 : (version != 2) = true := by simp; omega
    clear hv HBR HB2 HTP
    by_cases hE0 : E = 0
    · subst hE0
      rw [show failS st 0 = st by unfold failS; rw [if_neg (by decide)]] at HT2 hne
      have HG := Hid.mk' (fun w h => HGU.out st 18 w h (by decide))
      obtain ⟨S, hS⟩ : ∃ S, S = giveS st 18 := ⟨_, rfl⟩
      rw [← hS] at HT2 hne HG
      have hne3 : (S.e != 0) = true := by simpa using hne
      clear hne hS
      go_enter Try.func51, Try.ntmps51
      go_wp2_with (first
        | (go_at_call 59; refine (HR8.out _ (by (repeat (with_reducible (first | exact Ext.refl _ | assumption | exact held_left (by assumption) | apply Ext.drewN | apply Ext.drew | apply Ext.alloc | (refine Ext.setCell ?_ (by first | (simp; done) | (simp; omega) | omega) _) | (refine Ext.trans ?_ (by assumption)) | (refine Ext.trans ?_ (held_left (by assumption)))))))).mono ?_; rintro e w1 ⟨rfl, hb1⟩)
        | (go_at_call 89; refine (HG.out _ (H.out.ext (by (repeat (with_reducible (first | exact Ext.refl _ | assumption | exact held_left (by assumption) | apply Ext.drewN | apply Ext.drew | apply Ext.alloc | (refine Ext.setCell ?_ (by first | (simp; done) | (simp; omega) | omega) _) | (refine Ext.trans ?_ (by assumption)) | (refine Ext.trans ?_ (held_left (by assumption))))))))).mono ?_; rintro e w2 ⟨rfl, hr2, ht2⟩; have bd2 := hr2.bad; have gl2 := hr2.lt; have HR2 := Hid.mk' hr2; have HT3 := Hid.mk' ((Tch.of_ext (show Ext w w1 by (repeat (with_reducible (first | exact Ext.refl _ | assumption | exact held_left (by assumption) | apply Ext.drewN | apply Ext.drew | apply Ext.alloc | (refine Ext.setCell ?_ (by first | (simp; done) | (simp; omega) | omega) _) | (refine Ext.trans ?_ (by assumption)) | (refine Ext.trans ?_ (held_left (by assumption)))))))).trans ht2); clear hr2 ht2))
      go_ret2
      exact RTkPost.bad HT2.out HR2.out HT3.out
    · have hE1 : (E != 0) = true := by simpa using hE0
      have hfE : failS st E = giveS st E := by unfold failS; rw [if_pos hE0]
      rw [hfE] at HT2 hne
      have HG := Hid.mk' (fun w h => HGU.out st E w h hE0)
      obtain ⟨S1, hS1⟩ : ∃ S1, S1 = giveS st E := ⟨_, rfl⟩
      rw [← hS1] at HT2 hne HG
      have HG2 := Hid.mk' (fun w h => HGU.out S1 18 w h (by decide))
      obtain ⟨S, hS⟩ : ∃ S, S = giveS S1 18 := ⟨_, rfl⟩
      rw [← hS] at HT2 hne HG2
      have hne3 : (S.e != 0) = true := by simpa using hne
      clear hne hS hS1 hfE hE0
      go_enter Try.func51, Try.ntmps51
      go_upto_region 4 with (first
        | (go_at_call 59; refine (HR8.out _ (by (repeat (with_reducible (first | exact Ext.refl _ | assumption | exact held_left (by assumption) | apply Ext.drewN | apply Ext.drew | apply Ext.alloc | (refine Ext.setCell ?_ (by first | (simp; done) | (simp; omega) | omega) _) | (refine Ext.trans ?_ (by assumption)) | (refine Ext.trans ?_ (held_left (by assumption)))))))).mono ?_; rintro e w1 ⟨rfl, hb1⟩)
        | (go_at_call 89; refine (HG.out _ (H.out.ext (by (repeat (with_reducible (first | exact Ext.refl _ | assumption | exact held_left (by assumption) | apply Ext.drewN | apply Ext.drew | apply Ext.alloc | (refine Ext.setCell ?_ (by first | (simp; done) | (simp; omega) | omega) _) | (refine Ext.trans ?_ (by assumption)) | (refine Ext.trans ?_ (held_left (by assumption))))))))).mono ?_; rintro e w2 ⟨rfl, hr2, ht2⟩; have HR2 := Hid.mk' hr2; have HT3 := Hid.mk' ((Tch.of_ext (show Ext w w1 by (repeat (with_reducible (first | exact Ext.refl _ | assumption | exact held_left (by assumption) | apply Ext.drewN | apply Ext.drew | apply Ext.alloc | (refine Ext.setCell ?_ (by first | (simp; done) | (simp; omega) | omega) _) | (refine Ext.trans ?_ (by assumption)) | (refine Ext.trans ?_ (held_left (by assumption)))))))).trans ht2); clear hr2 ht2))
      go_wp2_with (first
        | (go_at_call 89; refine (HG2.out _ HR2.out).mono ?_; rintro e w3 ⟨rfl, hr2, ht2⟩; have bd2 := hr2.bad; have gl2 := hr2.lt; have HR3 := Hid.mk' hr2; have HT4 := Hid.mk' (HT3.out.trans ht2); clear hr2 ht2))
      go_ret2
      exact RTkPost.bad HT2.out HR3.out HT4.out
  have HB2 := Hid.mk' (HBR.out.trans (if_pos hv))
  clear HBR
  rw [HB2.out] at HTP
  by_cases hE0 : E = 0
  case neg =>
    have hE1 : (E != 0) = true := by simpa using hE0
    have hfE : failS st E = giveS st E := by unfold failS; rw [if_pos hE0]
    have hne := give_bad st hE0
    rw [hfE] at HTP
    have HT2 := Hid.mk' (HTP.out.trans (if_pos hne))
    have HG := Hid.mk' (fun w h => HGU.out st E w h hE0)
    obtain ⟨S1, hS1⟩ : ∃ S1, S1 = giveS st E := ⟨_, rfl⟩
    rw [← hS1] at HT2 hne HG
    have hne3 : (S1.e != 0) = true := by simpa using hne
    clear hne hS1 hfE hE0 HTP HB2
    rcases hv with rfl | rfl
    all_goals
      go_enter Try.func51, Try.ntmps51
      go_wp2_with (first
        | (go_at_call 59; refine (HR8.out _ (by (repeat (with_reducible (first | exact Ext.refl _ | assumption | exact held_left (by assumption) | apply Ext.drewN | apply Ext.drew | apply Ext.alloc | (refine Ext.setCell ?_ (by first | (simp; done) | (simp; omega) | omega) _) | (refine Ext.trans ?_ (by assumption)) | (refine Ext.trans ?_ (held_left (by assumption)))))))).mono ?_; rintro e w1 ⟨rfl, hb1⟩)
        | (go_at_call 89; refine (HG.out _ (H.out.ext (by (repeat (with_reducible (first | exact Ext.refl _ | assumption | exact held_left (by assumption) | apply Ext.drewN | apply Ext.drew | apply Ext.alloc | (refine Ext.setCell ?_ (by first | (simp; done) | (simp; omega) | omega) _) | (refine Ext.trans ?_ (by assumption)) | (refine Ext.trans ?_ (held_left (by assumption))))))))).mono ?_; rintro e w2 ⟨rfl, hr2, ht2⟩; have bd2 := hr2.bad; have gl2 := hr2.lt; have HR2 := Hid.mk' hr2; have HT3 := Hid.mk' ((Tch.of_ext (show Ext w w1 by (repeat (with_reducible (first | exact Ext.refl _ | assumption | exact held_left (by assumption) | apply Ext.drewN | apply Ext.drew | apply Ext.alloc | (refine Ext.setCell ?_ (by first | (simp; done) | (simp; omega) | omega) _) | (refine Ext.trans ?_ (by assumption)) | (refine Ext.trans ?_ (held_left (by assumption)))))))).trans ht2); clear hr2 ht2))
      go_ret2
      exact RTkPost.bad HT2.out HR2.out HT3.out
  subst hE0
  rw [show failS st 0 = st by unfold failS; rw [if_neg (by decide)]] at HTP
  by_cases he : st.e = 0
  case neg =>
    have HT2 := Hid.mk' (HTP.out.trans (if_pos he))
    have hne3 : (st.e != 0) = true := by simpa using he
    have bd2 := H.out.bad
    clear he HTP HB2
    rcases hv with rfl | rfl
    all_goals
      go_enter Try.func51, Try.ntmps51
      go_wp2_with (go_at_call 59; refine (HR8.out _ (by (repeat (with_reducible (first | exact Ext.refl _ | assumption | exact held_left (by assumption) | apply Ext.drewN | apply Ext.drew | apply Ext.alloc | (refine Ext.setCell ?_ (by first | (simp; done) | (simp; omega) | omega) _) | (refine Ext.trans ?_ (by assumption)) | (refine Ext.trans ?_ (held_left (by assumption)))))))).mono ?_; rintro e w1 ⟨rfl, hb1⟩; have hR1 := H.out.ext (show Ext w w1 by (repeat (with_reducible (first | exact Ext.refl _ | assumption | exact held_left (by assumption) | apply Ext.drewN | apply Ext.drew | apply Ext.alloc | (refine Ext.setCell ?_ (by first | (simp; done) | (simp; omega) | omega) _) | (refine Ext.trans ?_ (by assumption)) | (refine Ext.trans ?_ (held_left (by assumption))))))); have bd3 := hR1.bad; have gl3 := hR1.lt; have HR1 := Hid.mk' hR1; have HE1 := Hid.mk' (show Ext w w1 by (repeat (with_reducible (first | exact Ext.refl _ | assumption | exact held_left (by assumption) | apply Ext.drewN | apply Ext.drew | apply Ext.alloc | (refine Ext.setCell ?_ (by first | (simp; done) | (simp; omega) | omega) _) | (refine Ext.trans ?_ (by assumption)) | (refine Ext.trans ?_ (held_left (by assumption))))))); clear hR1)
      go_ret2
      exact RTkPost.bad HT2.out HR1.out (Tch.of_ext HE1.out)
  have HT2 := Hid.mk' (HTP.out.trans (if_neg (by simpa using he)))
  obtain ⟨hc16, -⟩ := HC16.out rfl
  have hc16 : cols.length ≤ 16 := hc16
  have hs2 : mapSize cols.length ≤ 2 := by unfold mapSize; omega
  have HZ := Hid.mk' (fun w => rmsize_any cols.length w hc16)
  have HBY := Hid.mk' (fun w h => fbytes_any g d st (mapSize cols.length) w h (by omega))
  have hne3 : (st.e != 0) = false := by simpa using he
  have hqb := bytesR_isB hok (mapSize cols.length)
  obtain ⟨Q, hQ⟩ : ∃ Q, Q = bytesR (mapSize cols.length) st := ⟨_, rfl⟩
  rw [← hQ] at HT2 HBY hqb
  have hwu : IntKind.u64.wrap ((mapSize cols.length : Nat) : Int) = ((mapSize cols.length : Nat) : Int) := by rw [u64_wrap]; omega
  clear HTP HB2 HC16
  by_cases hq : Q.2.e = 0
  case neg =>
    have HT3 := Hid.mk' (HT2.out.trans (if_pos hq))
    have hq3 : (Q.2.e != 0) = true := by simpa using hq
    clear hq he hQ hqb HT2
    rcases hv with rfl | rfl
    all_goals
      go_enter Try.func51, Try.ntmps51
      go_wp2_with (first
        | (go_at_call 59; refine (HR8.out _ (by (repeat (with_reducible (first | exact Ext.refl _ | assumption | exact held_left (by assumption) | apply Ext.drewN | apply Ext.drew | apply Ext.alloc | (refine Ext.setCell ?_ (by first | (simp; done) | (simp; omega) | omega) _) | (refine Ext.trans ?_ (by assumption)) | (refine Ext.trans ?_ (held_left (by assumption)))))))).mono ?_; rintro e w1 ⟨rfl, hb1⟩; have hR1 := H.out.ext (show Ext w w1 by (repeat (with_reducible (first | exact Ext.refl _ | assumption | exact held_left (by assumption) | apply Ext.drewN | apply Ext.drew | apply Ext.alloc | (refine Ext.setCell ?_ (by first | (simp; done) | (simp; omega) | omega) _) | (refine Ext.trans ?_ (by assumption)) | (refine Ext.trans ?_ (held_left (by assumption))))))); have bd3 := hR1.bad; have gl3 := hR1.lt; have HR1 := Hid.mk' hR1; have HE1 := Hid.mk' hb1; have g0 := ((Blk.new w #[.int .u32 oid, .int .u32 ver, .string nm, .int .u8 id, .slice a2 cols.length cap2] 27).ext hb1).cell; have z0 := ((Blk.new w #[.int .u32 oid, .int .u32 ver, .string nm, .int .u8 id, .slice a2 cols.length cap2] 27).ext hb1).lt; clear hR1 hb1)
        | (go_at_call 91; refine (HZ.out _).mono ?_; rintro e w2 ⟨rfl, rfl⟩)
        | (go_at_call 90; refine (HBY.out _ HR1.out).mono ?_; rintro e w3 ⟨rfl, hr3, ht3⟩; have bd4 := hr3.bad; have gl4 := hr3.lt; have HR3 := Hid.mk' hr3; have HTT := Hid.mk' ((Tch.of_ext (((Ext.refl w).alloc _).trans HE1.out)).trans ht3); clear hr3 ht3))
      go_ret2
      exact RTkPost.bad HT3.out HR3.out HTT.out
  have HT3 := Hid.mk' (HT2.out.trans (if_neg (by simpa using hq)))
  have hq3 : (Q.2.e != 0) = false := by simpa using hq
  have hql : Q.1.length = mapSize cols.length := by
    rw [hQ] at hq ⊢
    unfold bytesR at hq ⊢
    by_cases hsh : st.l.length < mapSize cols.length
    · rw [if_pos hsh] at hq; exact absurd hq (give_bad st (by decide))
    · rw [if_neg hsh]; simp; omega
  clear hQ hq HT2
  have hstl : strL (strOfNums Q.1) = Q.1 := strL_strOf hqb
  have hsz : (strOfNums Q.1).size = Q.1.length := by rw [← strL_len, hstl]
  have HUN := Hid.mk' (fun W a c h => runpack_any Q.1 cols.length a c W h hqb hc16 hql)
  have hcv := fun W => conv_str W (strOfNums Q.1)
  have HSB := Hid.mk' (fun W c => sl_bytesWorld W (strOfNums Q.1) c)
  rw [hstl] at HSB
  rw [hsz, hql] at HSB hcv
  rw [hql] at HUN
  rw [hql] at hsz
  unfold UnPost at HUN
  have hul : (unmapL Q.1 cols.length).1.length ≤ cols.length := by
    unfold unmapL; split
    · exact Nat.zero_le _
    · simp [unbits_len]
  have hu0 : (unmapL Q.1 cols.length).2 = 0 → (unmapL Q.1 cols.length).1.length = cols.length := by
    unfold unmapL; split
    · intro h; cases h
    · intro _; simp [unbits_len]
  have hLF : (unmapL Q.1 cols.length).2 ≠ 0 → (unmapL Q.1 cols.length).1 = [] := by
    unfold unmapL; split
    · intro _; rfl
    · intro h; exact absurd rfl h
  obtain ⟨L, hL⟩ : ∃ L, L = (unmapL Q.1 cols.length).1 := ⟨_, rfl⟩
  obtain ⟨F, hF⟩ : ∃ F, F = (unmapL Q.1 cols.length).2 := ⟨_, rfl⟩
  rw [← hL, ← hF] at HT3 HUN hu0 hLF
  rw [← hL] at hul
  obtain ⟨B, hB⟩ : ∃ B, B = strOfNums Q.1 := ⟨_, rfl⟩
  rw [← hB] at HBY hcv HSB hsz
  have HQL := Hid.mk' hql
  have HSZB := Hid.mk' hsz
  clear hL hF hstl hB hqb he hql hsz
  by_cases hF0 : F = 0
  case neg =>
    have hF3 : (F != 0) = true := by simpa using hF0
    have HG := Hid.mk' (fun w h => HGU.out Q.2 F w h hF0)
    have hbad : failS Q.2 F = giveS Q.2 F := by unfold failS; rw [if_pos hF0]
    rw [hbad] at HT3
    have HT4 : Hid (takeT (⟨oid, ver, nm, id, cols⟩ : Rl) version st = (([], []), giveS Q.2 F)) := Hid.mk' (by
      rw [HT3.out, hLF hF0]
      unfold finT
      rw [if_pos (show (tkUp [] cols version (giveS Q.2 F) ([] : List Bool).length).2.e ≠ 0 from give_bad _ hF0)]
      rfl)
    clear HT3 hF0 hbad hu0 hLF hul
    rcases hv with rfl | rfl
    all_goals
      go_enter Try.func51, Try.ntmps51
      go_upto_region 12 with (first
        | (go_at_call 59; refine (HR8.out _ (by (repeat (with_reducible (first | exact Ext.refl _ | assumption | exact held_left (by assumption) | apply Ext.drewN | apply Ext.drew | apply Ext.alloc | (refine Ext.setCell ?_ (by first | (simp; done) | (simp; omega) | omega) _) | (refine Ext.trans ?_ (by assumption)) | (refine Ext.trans ?_ (held_left (by assumption)))))))).mono ?_; rintro e w1 ⟨rfl, hb1⟩; have hR1 := H.out.ext (show Ext w w1 by (repeat (with_reducible (first | exact Ext.refl _ | assumption | exact held_left (by assumption) | apply Ext.drewN | apply Ext.drew | apply Ext.alloc | (refine Ext.setCell ?_ (by first | (simp; done) | (simp; omega) | omega) _) | (refine Ext.trans ?_ (by assumption)) | (refine Ext.trans ?_ (held_left (by assumption))))))); have bd3 := hR1.bad; have gl3 := hR1.lt; have HR1 := Hid.mk' hR1; have HE1 := Hid.mk' hb1; have g0 := ((Blk.new w #[.int .u32 oid, .int .u32 ver, .string nm, .int .u8 id, .slice a2 cols.length cap2] 27).ext hb1).cell; have z0 := ((Blk.new w #[.int .u32 oid, .int .u32 ver, .string nm, .int .u8 id, .slice a2 cols.length cap2] 27).ext hb1).lt; clear hR1 hb1)
        | (go_at_call 91; refine (HZ.out _).mono ?_; rintro e w2 ⟨rfl, rfl⟩)
        | (go_at_call 90; refine (HBY.out _ HR1.out).mono ?_; rintro e w3 ⟨rfl, hr3, ht3⟩; have bd4 := hr3.bad; have gl4 := hr3.lt; have HR3 := Hid.mk' hr3; have HTT := Hid.mk' ((Tch.of_ext (((Ext.refl w).alloc _).trans HE1.out)).trans ht3); clear hr3 ht3))
      have hEb := ext_bytesWorld w3 5 B
      have HEB := Hid.mk' hEb
      clear hEb
      go_wp2_with (first
        | (go_at_call 92; refine (HUN.out _ _ _ (HSB.out w3 _)).mono ?_; rintro e w4 ⟨a4, c4, rfl, -, -, hb4⟩; have HE4 := Hid.mk' hb4; clear hb4)
        | (go_at_call 89; refine (HG.out _ (HR3.out.ext (HEB.out.trans HE4.out))).mono ?_; rintro e w5 ⟨rfl, hr5, ht5⟩; have HR5 := Hid.mk' hr5; have HT5 := Hid.mk' ((HTT.out.trans (Tch.of_ext (HEB.out.trans HE4.out))).trans ht5); clear hr5 ht5))
      go_ret2
      exact RTkPost.bad HT4.out HR5.out HT5.out
  subst hF0
  have hLn := hu0 rfl
  rw [show failS Q.2 0 = Q.2 by unfold failS; rw [if_neg (by decide)]] at HT3
  obtain ⟨i0, hi, hz0, hz1, hz2⟩ := info_parts Try.infoCellR
  obtain ⟨j0, hj, hy0, hy1, hy2⟩ := info_parts Try.infoHoleR
  have HLN := Hid.mk' hLn
  have hml : L.length ≤ cols.length := by omega
  clear hu0 hLF hul hLn
  rcases hv with rfl | rfl
  · go_enter Try.func51, Try.ntmps51
    go_upto_region 12 with (first
      | (go_at_call 59; refine (HR8.out _ (by (repeat (with_reducible (first | exact Ext.refl _ | assumption | exact held_left (by assumption) | apply Ext.drewN | apply Ext.drew | apply Ext.alloc | (refine Ext.setCell ?_ (by first | (simp; done) | (simp; omega) | omega) _) | (refine Ext.trans ?_ (by assumption)) | (refine Ext.trans ?_ (held_left (by assumption)))))))).mono ?_; rintro e w1 ⟨rfl, hb1⟩; have hR1 := H.out.ext (show Ext w w1 by (repeat (with_reducible (first | exact Ext.refl _ | assumption | exact held_left (by assumption) | apply Ext.drewN | apply Ext.drew | apply Ext.alloc | (refine Ext.setCell ?_ (by first | (simp; done) | (simp; omega) | omega) _) | (refine Ext.trans ?_ (by assumption)) | (refine Ext.trans ?_ (held_left (by assumption))))))); have bd3 := hR1.bad; have gl3 := hR1.lt; have HR1 := Hid.mk' hR1; have HE1 := Hid.mk' hb1; have g0 := ((Blk.new w #[.int .u32 oid, .int .u32 ver, .string nm, .int .u8 id, .slice a2 cols.length cap2] 27).ext hb1).cell; have z0 := ((Blk.new w #[.int .u32 oid, .int .u32 ver, .string nm, .int .u8 id, .slice a2 cols.length cap2] 27).ext hb1).lt; clear hR1 hb1)
      | (go_at_call 91; refine (HZ.out _).mono ?_; rintro e w2 ⟨rfl, rfl⟩)
      | (go_at_call 90; refine (HBY.out _ HR1.out).mono ?_; rintro e w3 ⟨rfl, hr3, ht3⟩; have bd4 := hr3.bad; have gl4 := hr3.lt; have HR3 := Hid.mk' hr3; have HT3' := Hid.mk' ((Tch.of_ext HE1.out).trans ht3); clear hr3 ht3))
    have hEb := ext_bytesWorld w3 5 B
    have HEB := Hid.mk' hEb
    clear hEb g0 z0 bd3 gl3 bd4 gl4
    go_wp2_with (first
      | (go_at_call 92; refine (HUN.out _ _ _ (HSB.out w3 _)).mono ?_; rintro e w5 ⟨a5, c5, rfl, hs5, ha5, hb5⟩; have H5 := Hid.mk' hs5; have HA5 := Hid.mk' (fun k o e => Nat.lt_of_lt_of_le HR3.out.lt (Nat.le_trans HEB.out.size (ha5 k o e))); have HR5 := Hid.mk' (HR3.out.ext (HEB.out.trans hb5)); have HT5 := Hid.mk' (HT3'.out.trans (Tch.of_ext (HEB.out.trans hb5))); clear hs5 hb5 ha5))
    clear hcv
    rw [HLN.out]
    obtain ⟨T, hT⟩ : ∃ T : Nat → (List K × List Ho) × RS, T = tkUp L cols 1 Q.2 := ⟨_, rfl⟩
    have HTD := Hid.mk' hT
    have hT0 : T 0 = (([], []), Q.2) := by rw [hT]; rfl
    have HTlen : Hid (∀ k, k ≤ L.length → (T k).1.1.length = k) := Hid.mk' (fun k hk => by rw [hT]; exact tkUp_len k hk (by omega))
    have HThol : Hid (∀ k, (T k).1.2.length ≤ k) := Hid.mk' (fun k => by rw [hT]; exact tkUp_holes k)
    have HTnull : Hid (∀ k (h1 : k < L.length), L[k] = true → T (k + 1) = (((T k).1.1 ++ [K.zero], (T k).1.2), (T k).2)) := Hid.mk' (fun k h1 h => by rw [hT]; exact tkUp_null h1 (by omega) h)
    have HTcell : Hid (∀ k (h1 : k < L.length) (h2 : k < cols.length), L[k] = false → ∀ c m U, takeC cols[k].ty 1 (T k).2 = ((c, m), U) → T (k + 1) = (((T k).1.1 ++ [c], if 0 < m then (T k).1.2 ++ [⟨k, (m : Nat)⟩] else (T k).1.2), U)) := Hid.mk' (fun k h1 h2 h c m U he => by rw [hT] at he ⊢; exact tkUp_cell h1 h2 h he)
    have HTfin := Hid.mk' (HT3.out.trans (show _ = finT (T L.length) by rw [hT]))
    have HT0 := Hid.mk' hT0
    clear hT hT0 HTD
    have hz5 := HT5.out.size
    simp at hz5
    go_loopw [13, 14, 15] (fun v u i wr => ∃ k : Nat, k ≤ L.length ∧ i = .int .i64 k ∧ Hid (wr.ownsRow w5.heap.size 121 6 v k (((T k).1.1.map K.rc).flatten)) ∧ Hid (wr.ownsRow w5.heap.size 97 2 u (T k).1.2.length (((T k).1.2.map Ho.cells).flatten)) ∧ Hid (RF wr g d (T k).2) ∧ Hid (Tch g w5 wr) ∧ Hid (Tch g (w.alloc (.cells #[.int .u32 oid, .int .u32 ver, .string nm, .int .u8 id, .slice a2 cols.length cap2] 27)) wr)) (fun _ _ i _ => L.length - (intOf i).toNat)
    case atStart => exact ⟨0, Nat.zero_le _, rfl, Hid.mk' (by rw [HT0.out]; exact World.ownsRow_nil _ _ _ _), Hid.mk' (by rw [HT0.out]; exact World.ownsRow_nil _ _ _ _), Hid.mk' (by rw [HT0.out]; exact HR5.out), Hid.mk' (Tch.refl g _), HT5⟩
    case round =>
      obtain ⟨k, hk, rfl, hown, hown2, hr, hT5, hTW⟩ := hrel
      have hB0 := (Blk.new w #[.int .u32 oid, .int .u32 ver, .string nm, .int .u8 id, .slice a2 cols.length cap2] 27).tch hTW.out (by omega)
      have g0 := hB0.cell
      have z1 := hB0.lt
      have HB0 := Hid.mk' hB0
      clear hB0
      by_cases hlt : k < L.length
      · have hlt2 : k < cols.length := by omega
        obtain ⟨bL, oL, rfl, hbL, hxL⟩ := H5.out.at_ (i := k) (by simpa using hlt)
        have fL : wr.cell? ⟨bL, oL + k, none⟩ = some (.bool L[k]) := by
          rw [hT5.out.cell hbL (by have := HA5.out bL oL rfl; omega)]
          exact boolC_at hlt hxL hbL (Ext.refl _)
        have hbLw : bL < wr.heap.size := Nat.lt_of_lt_of_le hbL hT5.out.size
        have hkl := HTlen.out k (by omega)
        have hhl := HThol.out k
        clear hxL
        cases hq : L[k] with
        | true =>
          rw [hq] at fL
          have HS := Hid.mk' (HTnull.out k hlt hq)
          obtain ⟨P, hP⟩ : ∃ P, P = T k := ⟨_, rfl⟩
          rw [← hP] at HS hown hown2 hr hkl hhl
          clear hq hP
          have HOW := Hid.mk' (hown.out.alloc (.cells #[.int .u8 0, .int .u8 0, .int .i64 0, .int .u64 0, .int .u64 0, .string ByteArray.empty] 121))
          go_wp2_with (at_builtin; refine wpList_append_own _ rfl _ _ 31 rfl w5.heap.size 121 i0 _ 6 56 Try.underlying31 hi hz0 hz1 hz2 rfl (by decide) _ _ _ rfl (HOW.out.alloc _) ⟨_, 0, none⟩ 1 1 K.zero.rc rfl rfl ?c1 ?c2 ?c3 ?c4 ?c5 ?_)
          case c1 => exact cells_new' _ #[.int .u8 0, .int .u8 0, .int .i64 0, .int .u64 0, .int .u64 0, .string ByteArray.empty] _ (by simp)
          case c2 => intro u hu; simp [K.rc, K.zero, V.zero] at hu; rcases hu with rfl | rfl | rfl | rfl | rfl | rfl <;> rfl
          case c3 => unfold maxLen; omega
          case c4 => omega
          case c5 => have := hT5.out.size; simp; omega
          intro v' w6 hown' hgrow _
          have hlt2' := owns_lt2 hown.out
          have HN1 := Hid.mk' hown'
          have HN2 := Hid.mk' (owns_grown2 ((hown2.out.alloc (.cells #[.int .u8 0, .int .u8 0, .int .i64 0, .int .u64 0, .int .u64 0, .string ByteArray.empty] 121)).alloc (.cells #[.int .u8 0, .int .u8 0, .int .i64 0, .int .u64 0, .int .u64 0, .string ByteArray.empty] 121)) hgrow (fun q hq e => owns_apart hown2.out hown.out (by decide) q hq e))
          have HNR := Hid.mk' (((hr.out.ext ((Ext.refl wr).alloc (.cells #[.int .u8 0, .int .u8 0, .int .i64 0, .int .u64 0, .int .u64 0, .string ByteArray.empty] 121))).ext ((Ext.refl _).alloc (.cells #[.int .u8 0, .int .u8 0, .int .i64 0, .int .u64 0, .int .u64 0, .string ByteArray.empty] 121))).grown hgrow (fun j hj => by have := hlt2' j hj; omega))
          have HNT := Hid.mk' (((hT5.out.alloc (.cells #[.int .u8 0, .int .u8 0, .int .i64 0, .int .u64 0, .int .u64 0, .string ByteArray.empty] 121)).alloc (.cells #[.int .u8 0, .int .u8 0, .int .i64 0, .int .u64 0, .int .u64 0, .string ByteArray.empty] 121)).grown hgrow (fun j hj => (hlt2' j hj).1))
          have HNW := Hid.mk' (((hTW.out.alloc (.cells #[.int .u8 0, .int .u8 0, .int .i64 0, .int .u64 0, .int .u64 0, .string ByteArray.empty] 121)).alloc (.cells #[.int .u8 0, .int .u8 0, .int .i64 0, .int .u64 0, .int .u64 0, .string ByteArray.empty] 121)).grown hgrow (fun j hj => by have := hlt2' j hj; have := hT5.out.size; simp; omega))
          clear hown' hgrow
          go_wp2
          go_roundw
          case rel => exact ⟨k + 1, by omega, by go_num, Hid.mk' (by rw [HS.out, List.map_append, List.flatten_append]; simpa using HN1.out), Hid.mk' (by rw [HS.out]; exact HN2.out), Hid.mk' (by rw [HS.out]; exact HNR.out), HNT, HNW⟩
          case measure => simp [intOf]; omega
        | false =>
          rw [hq] at fL
          obtain ⟨b2, o2, ha2e, hb2, hx2⟩ := HL2.out.at_ (i := k) (by simpa using hlt2)
          have hTw : Tch g w wr := (Tch.of_ext ((Ext.refl w).alloc _)).trans hTW.out
          have p1 : wr.cell? ⟨b2, o2 + k * 3 + 1, none⟩ = some (.int .u8 cols[k].ty) := by
            rw [hTw.cell hb2 (ha2 b2 o2 ha2e (List.ne_nil_of_length_pos (by omega)))]
            exact (Col.at_ hlt2 hx2 hb2 (Ext.refl _)).2.1
          have hb2w : b2 < wr.heap.size := Nat.lt_of_lt_of_le hb2 hTw.size
          have HTC := Hid.mk' (HTcell.out k hlt hlt2 hq)
          have HCT := Hid.mk' (fun W h => rctake_any g d (T k).2 cols[k].ty 1 W h)
          obtain ⟨c, m, U, hTC⟩ : ∃ c m U, takeC cols[k].ty 1 (T k).2 = ((c, m), U) := ⟨_, _, _, rfl⟩
          rw [hTC] at HCT
          have HS := Hid.mk' (HTC.out c m U hTC)
          simp only [K.aggR] at HCT
          obtain ⟨P, hP⟩ : ∃ P, P = T k := ⟨_, rfl⟩
          rw [← hP] at HS HCT hown hown2 hr hkl hhl
          obtain ⟨ty, hte⟩ : ∃ ty, ty = cols[k].ty := ⟨_, rfl⟩
          rw [← hte] at p1 HCT
          have HA2 := Hid.mk' ha2
          subst ha2e
          clear hq hP hTC hte hx2 HTC
          go_upto_region 25 with (go_at_call 93; refine (HCT.out _ (hr.out.ext ((Ext.refl wr).alloc _))).mono ?_; rintro e w6 ⟨rfl, hr6, ht6⟩; have hX := (Blk.new wr #[.int .u8 0, .int .u8 0, .int .i64 0, .int .u64 0, .int .u64 0, .string ByteArray.empty] 121).tch ht6 (by omega); have kX := hX.cell; have fX := hX.frozen; have zX := hX.lt; have HR6 := Hid.mk' hr6; have HT6 := Hid.mk' ht6; have HX6 := Hid.mk' hX; have HO6 := Hid.mk' (owns_tch (hown.out.alloc (.cells #[.int .u8 0, .int .u8 0, .int .i64 0, .int .u64 0, .int .u64 0, .string ByteArray.empty] 121)) ht6 (by omega)); have HP6 := Hid.mk' (owns_tch (hown2.out.alloc (.cells #[.int .u8 0, .int .u8 0, .int .i64 0, .int .u64 0, .int .u64 0, .string ByteArray.empty] 121)) ht6 (by omega)); clear hr6 ht6 hX)
          have hl1 := owns_lt2 hown.out
          have hl2 := owns_lt2 hown2.out
          have h5r := hT5.out.size
          have hB7 : Blk ((((((w6.setCell ⟨wr.heap.size, 0, none⟩ (.int .u8 c.k)).setCell ⟨wr.heap.size, 1, none⟩ (.int .u8 c.v.ty)).setCell ⟨wr.heap.size, 2, none⟩ (.int .i64 c.v.n)).setCell ⟨wr.heap.size, 3, none⟩ (.int .u64 c.v.x)).setCell ⟨wr.heap.size, 4, none⟩ (.int .u64 c.v.y)).setCell ⟨wr.heap.size, 5, none⟩ (.string c.v.s)) wr.heap.size #[.int .u8 c.k, .int .u8 c.v.ty, .int .i64 c.v.n, .int .u64 c.v.x, .int .u64 c.v.y, .string c.v.s] 121 := Blk.six HX6.out
          have hO7 : ((((((w6.setCell ⟨wr.heap.size, 0, none⟩ (.int .u8 c.k)).setCell ⟨wr.heap.size, 1, none⟩ (.int .u8 c.v.ty)).setCell ⟨wr.heap.size, 2, none⟩ (.int .i64 c.v.n)).setCell ⟨wr.heap.size, 3, none⟩ (.int .u64 c.v.x)).setCell ⟨wr.heap.size, 4, none⟩ (.int .u64 c.v.y)).setCell ⟨wr.heap.size, 5, none⟩ (.string c.v.s)).ownsRow w5.heap.size 121 6 u13 k ((P.1.1.map K.rc).flatten) := owns_six HO6.out (fun q hq => by have := hl1 q hq; omega)
          have hP7 : ((((((w6.setCell ⟨wr.heap.size, 0, none⟩ (.int .u8 c.k)).setCell ⟨wr.heap.size, 1, none⟩ (.int .u8 c.v.ty)).setCell ⟨wr.heap.size, 2, none⟩ (.int .i64 c.v.n)).setCell ⟨wr.heap.size, 3, none⟩ (.int .u64 c.v.x)).setCell ⟨wr.heap.size, 4, none⟩ (.int .u64 c.v.y)).setCell ⟨wr.heap.size, 5, none⟩ (.string c.v.s)).ownsRow w5.heap.size 97 2 u14 P.1.2.length ((P.1.2.map Ho.cells).flatten) := owns_six HP6.out (fun q hq => by have := hl2 q hq; omega)
          have hR7 : RF ((((((w6.setCell ⟨wr.heap.size, 0, none⟩ (.int .u8 c.k)).setCell ⟨wr.heap.size, 1, none⟩ (.int .u8 c.v.ty)).setCell ⟨wr.heap.size, 2, none⟩ (.int .i64 c.v.n)).setCell ⟨wr.heap.size, 3, none⟩ (.int .u64 c.v.x)).setCell ⟨wr.heap.size, 4, none⟩ (.int .u64 c.v.y)).setCell ⟨wr.heap.size, 5, none⟩ (.string c.v.s)) g d U := RF.six HR6.out (by omega)
          have hT7 : Tch g w5 ((((((w6.setCell ⟨wr.heap.size, 0, none⟩ (.int .u8 c.k)).setCell ⟨wr.heap.size, 1, none⟩ (.int .u8 c.v.ty)).setCell ⟨wr.heap.size, 2, none⟩ (.int .i64 c.v.n)).setCell ⟨wr.heap.size, 3, none⟩ (.int .u64 c.v.x)).setCell ⟨wr.heap.size, 4, none⟩ (.int .u64 c.v.y)).setCell ⟨wr.heap.size, 5, none⟩ (.string c.v.s)) := Tch.six ((hT5.out.alloc _).trans HT6.out) h5r
          have hV7 : Tch g _ ((((((w6.setCell ⟨wr.heap.size, 0, none⟩ (.int .u8 c.k)).setCell ⟨wr.heap.size, 1, none⟩ (.int .u8 c.v.ty)).setCell ⟨wr.heap.size, 2, none⟩ (.int .i64 c.v.n)).setCell ⟨wr.heap.size, 3, none⟩ (.int .u64 c.v.x)).setCell ⟨wr.heap.size, 4, none⟩ (.int .u64 c.v.y)).setCell ⟨wr.heap.size, 5, none⟩ (.string c.v.s)) := Tch.six ((hTW.out.alloc _).trans HT6.out) (by simp; omega)
          obtain ⟨W7, hW7⟩ : ∃ W7, W7 = (((((w6.setCell ⟨wr.heap.size, 0, none⟩ (.int .u8 c.k)).setCell ⟨wr.heap.size, 1, none⟩ (.int .u8 c.v.ty)).setCell ⟨wr.heap.size, 2, none⟩ (.int .i64 c.v.n)).setCell ⟨wr.heap.size, 3, none⟩ (.int .u64 c.v.x)).setCell ⟨wr.heap.size, 4, none⟩ (.int .u64 c.v.y)).setCell ⟨wr.heap.size, 5, none⟩ (.string c.v.s) := ⟨_, rfl⟩
          rw [← hW7] at hB7 hO7 hP7 hR7 hT7 hV7 ⊢
          clear hW7 kX fX zX HX6 HO6 HP6 HR6 HT6 g0
          have k7 := hB7.cell
          have z7 := hB7.lt
          have HO7 := Hid.mk' hO7
          have HP7 := Hid.mk' hP7
          have HR7 := Hid.mk' hR7
          have HT7 := Hid.mk' hT7
          have HV7 := Hid.mk' hV7
          clear hB7 hO7 hP7 hR7 hT7 hV7
          go_upto_region 26 with (at_builtin; refine wpList_append_own _ rfl _ _ 31 rfl w5.heap.size 121 i0 _ 6 56 Try.underlying31 hi hz0 hz1 hz2 rfl (by decide) _ _ _ rfl (HO7.out.alloc _) ⟨_, 0, none⟩ 1 1 c.rc rfl rfl ?c1 ?c2 ?c3 ?c4 ?c5 ?_)
          case c1 => exact cells_new _ #[.int .u8 c.k, .int .u8 c.v.ty, .int .i64 c.v.n, .int .u64 c.v.x, .int .u64 c.v.y, .string c.v.s] _
          case c2 => intro u hu; simp [K.rc] at hu; rcases hu with rfl | rfl | rfl | rfl | rfl | rfl <;> rfl
          case c3 => unfold maxLen; omega
          case c4 => omega
          case c5 => have := HT7.out.size; simp; omega
          intro v' w8 hown' hgrow _
          have hl7 := owns_lt2 HO7.out
          have HN1 := Hid.mk' hown'
          have HN2 := Hid.mk' (owns_grown2 (HP7.out.alloc (.cells #[.int .u8 c.k, .int .u8 c.v.ty, .int .i64 c.v.n, .int .u64 c.v.x, .int .u64 c.v.y, .string c.v.s] 121)) hgrow (fun q hq e => owns_apart HP7.out HO7.out (by decide) q hq e))
          have HNR := Hid.mk' ((HR7.out.ext ((Ext.refl _).alloc (.cells #[.int .u8 c.k, .int .u8 c.v.ty, .int .i64 c.v.n, .int .u64 c.v.x, .int .u64 c.v.y, .string c.v.s] 121))).grown hgrow (fun j hj => by have := hl7 j hj; omega))
          have HNT := Hid.mk' ((HT7.out.alloc (.cells #[.int .u8 c.k, .int .u8 c.v.ty, .int .i64 c.v.n, .int .u64 c.v.x, .int .u64 c.v.y, .string c.v.s] 121)).grown hgrow (fun j hj => (hl7 j hj).1))
          have HNW := Hid.mk' ((HV7.out.alloc (.cells #[.int .u8 c.k, .int .u8 c.v.ty, .int .i64 c.v.n, .int .u64 c.v.x, .int .u64 c.v.y, .string c.v.s] 121)).grown hgrow (fun j hj => by have := hl7 j hj; simp; omega))
          clear hown' hgrow hl7 hl1 hl2 k7 z7 HO7 HP7 HR7 HT7 HV7
          by_cases hm : 0 < m
          · rw [if_pos hm] at HS
            go_upto_region 20 with (at_builtin; refine wpList_append_own _ rfl _ _ 85 rfl w5.heap.size 97 j0 _ 2 16 Try.underlying85 hj hy0 hy1 hy2 rfl (by decide) _ _ _ rfl (HN2.out.alloc _) ⟨_, 0, none⟩ 1 1 (Ho.cells ⟨k, m⟩) rfl rfl ?d1 ?d2 ?d3 ?d4 ?d5 ?_)
            case d1 => exact cells_new _ #[.int .i64 (k : Int), .int .i64 (m : Int)] _
            case d2 => intro u hu; simp [Ho.cells] at hu; rcases hu with rfl | rfl <;> rfl
            case d3 => unfold maxLen; omega
            case d4 => omega
            case d5 => have := HNT.out.size; simp; omega
            intro u' w9 hown' hgrow _
            have hl7 := owns_lt2 HN2.out
            have HM2 := Hid.mk' hown'
            have HM1 := Hid.mk' (owns_grown2 (HN1.out.alloc (.cells #[.int .i64 (k : Int), .int .i64 (m : Int)] 97)) hgrow (fun q hq e => owns_apart HN1.out HN2.out (by decide) q hq e))
            have HMR := Hid.mk' ((HNR.out.ext ((Ext.refl _).alloc (.cells #[.int .i64 (k : Int), .int .i64 (m : Int)] 97))).grown hgrow (fun j hj => by have := hl7 j hj; omega))
            have HMT := Hid.mk' ((HNT.out.alloc (.cells #[.int .i64 (k : Int), .int .i64 (m : Int)] 97)).grown hgrow (fun j hj => (hl7 j hj).1))
            have HMW := Hid.mk' ((HNW.out.alloc (.cells #[.int .i64 (k : Int), .int .i64 (m : Int)] 97)).grown hgrow (fun j hj => by have := hl7 j hj; simp; omega))
            clear hown' hgrow hl7 HN1 HN2 HNR HNT HNW
            go_wp2
            go_roundw
            case rel => exact ⟨k + 1, by omega, by go_num, Hid.mk' (by rw [HS.out, List.map_append, List.flatten_append]; simpa using HM1.out), Hid.mk' (by rw [HS.out, List.map_append, List.flatten_append, List.length_append]; simpa using HM2.out), Hid.mk' (by rw [HS.out]; exact HMR.out), HMT, HMW⟩
            case measure => simp [intOf]; omega
          · rw [if_neg hm] at HS
            have hm0 : m = 0 := by omega
            subst hm0
            go_wp2
            go_roundw
            case rel => exact ⟨k + 1, by omega, by go_num, Hid.mk' (by rw [HS.out, List.map_append, List.flatten_append]; simpa using HN1.out), Hid.mk' (by rw [HS.out]; exact HN2.out), Hid.mk' (by rw [HS.out]; exact HNR.out), HNT, HNW⟩
            case measure => simp [intOf]; omega
      · have hkk : k = L.length := by omega
        subst hkk
        have hkl := HTlen.out _ (Nat.le_refl _)
        have HF := HTfin
        obtain ⟨P, hP⟩ : ∃ P, P = T L.length := ⟨_, rfl⟩
        rw [← hP] at HF hown hown2 hr hkl
        have hTw : Hid (Tch g w wr) := Hid.mk' ((Tch.of_ext ((Ext.refl w).alloc _)).trans hTW.out)
        have hz6 := hT5.out.size
        obtain ⟨a8, c8, rfl⟩ := owns_shape hown.out
        obtain ⟨a9, c9, rfl⟩ := owns_shape hown2.out
        have bdP := hr.out.bad
        have hLc : cols.length ≤ L.length := by have := HLN.out; omega
        have glP := hr.out.lt
        clear hP HTlen HThol HTnull HTcell HTfin
        by_cases hpe : P.2.e = 0
        · have hpe2 : (P.2.e != 0) = false := by simpa using hpe
          have HFF := Hid.mk' (HF.out.trans (show finT P = P by unfold finT; rw [if_neg (by simpa using hpe)]))
          clear hpe
          go_wp2
          go_ret2
          rw [HFF.out]
          unfold RTkPost
          rw [hkl]
          refine ⟨a8, c8, a9, c9, rfl, ?_, ?_, fun q o e => by have := owns_at hown.out q o e; omega, fun q o e => by have := owns_at hown2.out q o e; omega, hr.out, hTw.out⟩
          · have := Sl.of_owns (base := w5.heap.size) (e := 121) (xss := P.1.1.map K.rc) (by rw [List.length_map, hkl]; exact hown.out) rc_len
            exact this
          · have := Sl.of_owns (base := w5.heap.size) (e := 97) (xss := P.1.2.map Ho.cells) (by rw [List.length_map]; exact hown2.out) ho_len
            exact this
        · have hpe2 : (P.2.e != 0) = true := by simpa using hpe
          have HFF := Hid.mk' (HF.out.trans (show finT P = (([], []), P.2) by unfold finT; rw [if_pos hpe]))
          clear hpe
          go_wp2
          go_ret2
          exact RTkPost.bad HFF.out hr.out hTw.out

  · go_enter Try.func51, Try.ntmps51
    go_upto_region 12 with (first
      | (go_at_call 59; refine (HR8.out _ (by (repeat (with_reducible (first | exact Ext.refl _ | assumption | exact held_left (by assumption) | apply Ext.drewN | apply Ext.drew | apply Ext.alloc | (refine Ext.setCell ?_ (by first | (simp; done) | (simp; omega) | omega) _) | (refine Ext.trans ?_ (by assumption)) | (refine Ext.trans ?_ (held_left (by assumption)))))))).mono ?_; rintro e w1 ⟨rfl, hb1⟩; have hR1 := H.out.ext (show Ext w w1 by (repeat (with_reducible (first | exact Ext.refl _ | assumption | exact held_left (by assumption) | apply Ext.drewN | apply Ext.drew | apply Ext.alloc | (refine Ext.setCell ?_ (by first | (simp; done) | (simp; omega) | omega) _) | (refine Ext.trans ?_ (by assumption)) | (refine Ext.trans ?_ (held_left (by assumption))))))); have bd3 := hR1.bad; have gl3 := hR1.lt; have HR1 := Hid.mk' hR1; have HE1 := Hid.mk' hb1; have g0 := ((Blk.new w #[.int .u32 oid, .int .u32 ver, .string nm, .int .u8 id, .slice a2 cols.length cap2] 27).ext hb1).cell; have z0 := ((Blk.new w #[.int .u32 oid, .int .u32 ver, .string nm, .int .u8 id, .slice a2 cols.length cap2] 27).ext hb1).lt; clear hR1 hb1)
      | (go_at_call 91; refine (HZ.out _).mono ?_; rintro e w2 ⟨rfl, rfl⟩)
      | (go_at_call 90; refine (HBY.out _ HR1.out).mono ?_; rintro e w3 ⟨rfl, hr3, ht3⟩; have bd4 := hr3.bad; have gl4 := hr3.lt; have HR3 := Hid.mk' hr3; have HT3' := Hid.mk' ((Tch.of_ext HE1.out).trans ht3); clear hr3 ht3))
    have hEb := ext_bytesWorld w3 5 B
    have HEB := Hid.mk' hEb
    clear hEb g0 z0 bd3 gl3 bd4 gl4
    go_wp2_with (first
      | (go_at_call 92; refine (HUN.out _ _ _ (HSB.out w3 _)).mono ?_; rintro e w5 ⟨a5, c5, rfl, hs5, ha5, hb5⟩; have H5 := Hid.mk' hs5; have HA5 := Hid.mk' (fun k o e => Nat.lt_of_lt_of_le HR3.out.lt (Nat.le_trans HEB.out.size (ha5 k o e))); have HR5 := Hid.mk' (HR3.out.ext (HEB.out.trans hb5)); have HT5 := Hid.mk' (HT3'.out.trans (Tch.of_ext (HEB.out.trans hb5))); clear hs5 hb5 ha5))
    clear hcv
    rw [HLN.out]
    obtain ⟨T, hT⟩ : ∃ T : Nat → (List K × List Ho) × RS, T = tkUp L cols 2 Q.2 := ⟨_, rfl⟩
    have HTD := Hid.mk' hT
    have hT0 : T 0 = (([], []), Q.2) := by rw [hT]; rfl
    have HTlen : Hid (∀ k, k ≤ L.length → (T k).1.1.length = k) := Hid.mk' (fun k hk => by rw [hT]; exact tkUp_len k hk (by omega))
    have HThol : Hid (∀ k, (T k).1.2.length ≤ k) := Hid.mk' (fun k => by rw [hT]; exact tkUp_holes k)
    have HTnull : Hid (∀ k (h1 : k < L.length), L[k] = true → T (k + 1) = (((T k).1.1 ++ [K.zero], (T k).1.2), (T k).2)) := Hid.mk' (fun k h1 h => by rw [hT]; exact tkUp_null h1 (by omega) h)
    have HTcell : Hid (∀ k (h1 : k < L.length) (h2 : k < cols.length), L[k] = false → ∀ c m U, takeC cols[k].ty 2 (T k).2 = ((c, m), U) → T (k + 1) = (((T k).1.1 ++ [c], if 0 < m then (T k).1.2 ++ [⟨k, (m : Nat)⟩] else (T k).1.2), U)) := Hid.mk' (fun k h1 h2 h c m U he => by rw [hT] at he ⊢; exact tkUp_cell h1 h2 h he)
    have HTfin := Hid.mk' (HT3.out.trans (show _ = finT (T L.length) by rw [hT]))
    have HT0 := Hid.mk' hT0
    clear hT hT0 HTD
    have hz5 := HT5.out.size
    simp at hz5
    go_loopw [13, 14, 15] (fun v u i wr => ∃ k : Nat, k ≤ L.length ∧ i = .int .i64 k ∧ Hid (wr.ownsRow w5.heap.size 121 6 v k (((T k).1.1.map K.rc).flatten)) ∧ Hid (wr.ownsRow w5.heap.size 97 2 u (T k).1.2.length (((T k).1.2.map Ho.cells).flatten)) ∧ Hid (RF wr g d (T k).2) ∧ Hid (Tch g w5 wr) ∧ Hid (Tch g (w.alloc (.cells #[.int .u32 oid, .int .u32 ver, .string nm, .int .u8 id, .slice a2 cols.length cap2] 27)) wr)) (fun _ _ i _ => L.length - (intOf i).toNat)
    case atStart => exact ⟨0, Nat.zero_le _, rfl, Hid.mk' (by rw [HT0.out]; exact World.ownsRow_nil _ _ _ _), Hid.mk' (by rw [HT0.out]; exact World.ownsRow_nil _ _ _ _), Hid.mk' (by rw [HT0.out]; exact HR5.out), Hid.mk' (Tch.refl g _), HT5⟩
    case round =>
      obtain ⟨k, hk, rfl, hown, hown2, hr, hT5, hTW⟩ := hrel
      have hB0 := (Blk.new w #[.int .u32 oid, .int .u32 ver, .string nm, .int .u8 id, .slice a2 cols.length cap2] 27).tch hTW.out (by omega)
      have g0 := hB0.cell
      have z1 := hB0.lt
      have HB0 := Hid.mk' hB0
      clear hB0
      by_cases hlt : k < L.length
      · have hlt2 : k < cols.length := by omega
        obtain ⟨bL, oL, rfl, hbL, hxL⟩ := H5.out.at_ (i := k) (by simpa using hlt)
        have fL : wr.cell? ⟨bL, oL + k, none⟩ = some (.bool L[k]) := by
          rw [hT5.out.cell hbL (by have := HA5.out bL oL rfl; omega)]
          exact boolC_at hlt hxL hbL (Ext.refl _)
        have hbLw : bL < wr.heap.size := Nat.lt_of_lt_of_le hbL hT5.out.size
        have hkl := HTlen.out k (by omega)
        have hhl := HThol.out k
        clear hxL
        cases hq : L[k] with
        | true =>
          rw [hq] at fL
          have HS := Hid.mk' (HTnull.out k hlt hq)
          obtain ⟨P, hP⟩ : ∃ P, P = T k := ⟨_, rfl⟩
          rw [← hP] at HS hown hown2 hr hkl hhl
          clear hq hP
          have HOW := Hid.mk' (hown.out.alloc (.cells #[.int .u8 0, .int .u8 0, .int .i64 0, .int .u64 0, .int .u64 0, .string ByteArray.empty] 121))
          go_wp2_with (at_builtin; refine wpList_append_own _ rfl _ _ 31 rfl w5.heap.size 121 i0 _ 6 56 Try.underlying31 hi hz0 hz1 hz2 rfl (by decide) _ _ _ rfl (HOW.out.alloc _) ⟨_, 0, none⟩ 1 1 K.zero.rc rfl rfl ?c1 ?c2 ?c3 ?c4 ?c5 ?_)
          case c1 => exact cells_new' _ #[.int .u8 0, .int .u8 0, .int .i64 0, .int .u64 0, .int .u64 0, .string ByteArray.empty] _ (by simp)
          case c2 => intro u hu; simp [K.rc, K.zero, V.zero] at hu; rcases hu with rfl | rfl | rfl | rfl | rfl | rfl <;> rfl
          case c3 => unfold maxLen; omega
          case c4 => omega
          case c5 => have := hT5.out.size; simp; omega
          intro v' w6 hown' hgrow _
          have hlt2' := owns_lt2 hown.out
          have HN1 := Hid.mk' hown'
          have HN2 := Hid.mk' (owns_grown2 ((hown2.out.alloc (.cells #[.int .u8 0, .int .u8 0, .int .i64 0, .int .u64 0, .int .u64 0, .string ByteArray.empty] 121)).alloc (.cells #[.int .u8 0, .int .u8 0, .int .i64 0, .int .u64 0, .int .u64 0, .string ByteArray.empty] 121)) hgrow (fun q hq e => owns_apart hown2.out hown.out (by decide) q hq e))
          have HNR := Hid.mk' (((hr.out.ext ((Ext.refl wr).alloc (.cells #[.int .u8 0, .int .u8 0, .int .i64 0, .int .u64 0, .int .u64 0, .string ByteArray.empty] 121))).ext ((Ext.refl _).alloc (.cells #[.int .u8 0, .int .u8 0, .int .i64 0, .int .u64 0, .int .u64 0, .string ByteArray.empty] 121))).grown hgrow (fun j hj => by have := hlt2' j hj; omega))
          have HNT := Hid.mk' (((hT5.out.alloc (.cells #[.int .u8 0, .int .u8 0, .int .i64 0, .int .u64 0, .int .u64 0, .string ByteArray.empty] 121)).alloc (.cells #[.int .u8 0, .int .u8 0, .int .i64 0, .int .u64 0, .int .u64 0, .string ByteArray.empty] 121)).grown hgrow (fun j hj => (hlt2' j hj).1))
          have HNW := Hid.mk' (((hTW.out.alloc (.cells #[.int .u8 0, .int .u8 0, .int .i64 0, .int .u64 0, .int .u64 0, .string ByteArray.empty] 121)).alloc (.cells #[.int .u8 0, .int .u8 0, .int .i64 0, .int .u64 0, .int .u64 0, .string ByteArray.empty] 121)).grown hgrow (fun j hj => by have := hlt2' j hj; have := hT5.out.size; simp; omega))
          clear hown' hgrow
          go_wp2
          go_roundw
          case rel => exact ⟨k + 1, by omega, by go_num, Hid.mk' (by rw [HS.out, List.map_append, List.flatten_append]; simpa using HN1.out), Hid.mk' (by rw [HS.out]; exact HN2.out), Hid.mk' (by rw [HS.out]; exact HNR.out), HNT, HNW⟩
          case measure => simp [intOf]; omega
        | false =>
          rw [hq] at fL
          obtain ⟨b2, o2, ha2e, hb2, hx2⟩ := HL2.out.at_ (i := k) (by simpa using hlt2)
          have hTw : Tch g w wr := (Tch.of_ext ((Ext.refl w).alloc _)).trans hTW.out
          have p1 : wr.cell? ⟨b2, o2 + k * 3 + 1, none⟩ = some (.int .u8 cols[k].ty) := by
            rw [hTw.cell hb2 (ha2 b2 o2 ha2e (List.ne_nil_of_length_pos (by omega)))]
            exact (Col.at_ hlt2 hx2 hb2 (Ext.refl _)).2.1
          have hb2w : b2 < wr.heap.size := Nat.lt_of_lt_of_le hb2 hTw.size
          have HTC := Hid.mk' (HTcell.out k hlt hlt2 hq)
          have HCT := Hid.mk' (fun W h => rctake_any g d (T k).2 cols[k].ty 2 W h)
          obtain ⟨c, m, U, hTC⟩ : ∃ c m U, takeC cols[k].ty 2 (T k).2 = ((c, m), U) := ⟨_, _, _, rfl⟩
          rw [hTC] at HCT
          have HS := Hid.mk' (HTC.out c m U hTC)
          simp only [K.aggR] at HCT
          obtain ⟨P, hP⟩ : ∃ P, P = T k := ⟨_, rfl⟩
          rw [← hP] at HS HCT hown hown2 hr hkl hhl
          obtain ⟨ty, hte⟩ : ∃ ty, ty = cols[k].ty := ⟨_, rfl⟩
          rw [← hte] at p1 HCT
          have HA2 := Hid.mk' ha2
          subst ha2e
          clear hq hP hTC hte hx2 HTC
          go_upto_region 25 with (go_at_call 93; refine (HCT.out _ (hr.out.ext ((Ext.refl wr).alloc _))).mono ?_; rintro e w6 ⟨rfl, hr6, ht6⟩; have hX := (Blk.new wr #[.int .u8 0, .int .u8 0, .int .i64 0, .int .u64 0, .int .u64 0, .string ByteArray.empty] 121).tch ht6 (by omega); have kX := hX.cell; have fX := hX.frozen; have zX := hX.lt; have HR6 := Hid.mk' hr6; have HT6 := Hid.mk' ht6; have HX6 := Hid.mk' hX; have HO6 := Hid.mk' (owns_tch (hown.out.alloc (.cells #[.int .u8 0, .int .u8 0, .int .i64 0, .int .u64 0, .int .u64 0, .string ByteArray.empty] 121)) ht6 (by omega)); have HP6 := Hid.mk' (owns_tch (hown2.out.alloc (.cells #[.int .u8 0, .int .u8 0, .int .i64 0, .int .u64 0, .int .u64 0, .string ByteArray.empty] 121)) ht6 (by omega)); clear hr6 ht6 hX)
          have hl1 := owns_lt2 hown.out
          have hl2 := owns_lt2 hown2.out
          have h5r := hT5.out.size
          have hB7 : Blk ((((((w6.setCell ⟨wr.heap.size, 0, none⟩ (.int .u8 c.k)).setCell ⟨wr.heap.size, 1, none⟩ (.int .u8 c.v.ty)).setCell ⟨wr.heap.size, 2, none⟩ (.int .i64 c.v.n)).setCell ⟨wr.heap.size, 3, none⟩ (.int .u64 c.v.x)).setCell ⟨wr.heap.size, 4, none⟩ (.int .u64 c.v.y)).setCell ⟨wr.heap.size, 5, none⟩ (.string c.v.s)) wr.heap.size #[.int .u8 c.k, .int .u8 c.v.ty, .int .i64 c.v.n, .int .u64 c.v.x, .int .u64 c.v.y, .string c.v.s] 121 := Blk.six HX6.out
          have hO7 : ((((((w6.setCell ⟨wr.heap.size, 0, none⟩ (.int .u8 c.k)).setCell ⟨wr.heap.size, 1, none⟩ (.int .u8 c.v.ty)).setCell ⟨wr.heap.size, 2, none⟩ (.int .i64 c.v.n)).setCell ⟨wr.heap.size, 3, none⟩ (.int .u64 c.v.x)).setCell ⟨wr.heap.size, 4, none⟩ (.int .u64 c.v.y)).setCell ⟨wr.heap.size, 5, none⟩ (.string c.v.s)).ownsRow w5.heap.size 121 6 u13 k ((P.1.1.map K.rc).flatten) := owns_six HO6.out (fun q hq => by have := hl1 q hq; omega)
          have hP7 : ((((((w6.setCell ⟨wr.heap.size, 0, none⟩ (.int .u8 c.k)).setCell ⟨wr.heap.size, 1, none⟩ (.int .u8 c.v.ty)).setCell ⟨wr.heap.size, 2, none⟩ (.int .i64 c.v.n)).setCell ⟨wr.heap.size, 3, none⟩ (.int .u64 c.v.x)).setCell ⟨wr.heap.size, 4, none⟩ (.int .u64 c.v.y)).setCell ⟨wr.heap.size, 5, none⟩ (.string c.v.s)).ownsRow w5.heap.size 97 2 u14 P.1.2.length ((P.1.2.map Ho.cells).flatten) := owns_six HP6.out (fun q hq => by have := hl2 q hq; omega)
          have hR7 : RF ((((((w6.setCell ⟨wr.heap.size, 0, none⟩ (.int .u8 c.k)).setCell ⟨wr.heap.size, 1, none⟩ (.int .u8 c.v.ty)).setCell ⟨wr.heap.size, 2, none⟩ (.int .i64 c.v.n)).setCell ⟨wr.heap.size, 3, none⟩ (.int .u64 c.v.x)).setCell ⟨wr.heap.size, 4, none⟩ (.int .u64 c.v.y)).setCell ⟨wr.heap.size, 5, none⟩ (.string c.v.s)) g d U := RF.six HR6.out (by omega)
          have hT7 : Tch g w5 ((((((w6.setCell ⟨wr.heap.size, 0, none⟩ (.int .u8 c.k)).setCell ⟨wr.heap.size, 1, none⟩ (.int .u8 c.v.ty)).setCell ⟨wr.heap.size, 2, none⟩ (.int .i64 c.v.n)).setCell ⟨wr.heap.size, 3, none⟩ (.int .u64 c.v.x)).setCell ⟨wr.heap.size, 4, none⟩ (.int .u64 c.v.y)).setCell ⟨wr.heap.size, 5, none⟩ (.string c.v.s)) := Tch.six ((hT5.out.alloc _).trans HT6.out) h5r
          have hV7 : Tch g _ ((((((w6.setCell ⟨wr.heap.size, 0, none⟩ (.int .u8 c.k)).setCell ⟨wr.heap.size, 1, none⟩ (.int .u8 c.v.ty)).setCell ⟨wr.heap.size, 2, none⟩ (.int .i64 c.v.n)).setCell ⟨wr.heap.size, 3, none⟩ (.int .u64 c.v.x)).setCell ⟨wr.heap.size, 4, none⟩ (.int .u64 c.v.y)).setCell ⟨wr.heap.size, 5, none⟩ (.string c.v.s)) := Tch.six ((hTW.out.alloc _).trans HT6.out) (by simp; omega)
          obtain ⟨W7, hW7⟩ : ∃ W7, W7 = (((((w6.setCell ⟨wr.heap.size, 0, none⟩ (.int .u8 c.k)).setCell ⟨wr.heap.size, 1, none⟩ (.int .u8 c.v.ty)).setCell ⟨wr.heap.size, 2, none⟩ (.int .i64 c.v.n)).setCell ⟨wr.heap.size, 3, none⟩ (.int .u64 c.v.x)).setCell ⟨wr.heap.size, 4, none⟩ (.int .u64 c.v.y)).setCell ⟨wr.heap.size, 5, none⟩ (.string c.v.s) := ⟨_, rfl⟩
          rw [← hW7] at hB7 hO7 hP7 hR7 hT7 hV7 ⊢
          clear hW7 kX fX zX HX6 HO6 HP6 HR6 HT6 g0
          have k7 := hB7.cell
          have z7 := hB7.lt
          have HO7 := Hid.mk' hO7
          have HP7 := Hid.mk' hP7
          have HR7 := Hid.mk' hR7
          have HT7 := Hid.mk' hT7
          have HV7 := Hid.mk' hV7
          clear hB7 hO7 hP7 hR7 hT7 hV7
          go_upto_region 26 with (at_builtin; refine wpList_append_own _ rfl _ _ 31 rfl w5.heap.size 121 i0 _ 6 56 Try.underlying31 hi hz0 hz1 hz2 rfl (by decide) _ _ _ rfl (HO7.out.alloc _) ⟨_, 0, none⟩ 1 1 c.rc rfl rfl ?c1 ?c2 ?c3 ?c4 ?c5 ?_)
          case c1 => exact cells_new _ #[.int .u8 c.k, .int .u8 c.v.ty, .int .i64 c.v.n, .int .u64 c.v.x, .int .u64 c.v.y, .string c.v.s] _
          case c2 => intro u hu; simp [K.rc] at hu; rcases hu with rfl | rfl | rfl | rfl | rfl | rfl <;> rfl
          case c3 => unfold maxLen; omega
          case c4 => omega
          case c5 => have := HT7.out.size; simp; omega
          intro v' w8 hown' hgrow _
          have hl7 := owns_lt2 HO7.out
          have HN1 := Hid.mk' hown'
          have HN2 := Hid.mk' (owns_grown2 (HP7.out.alloc (.cells #[.int .u8 c.k, .int .u8 c.v.ty, .int .i64 c.v.n, .int .u64 c.v.x, .int .u64 c.v.y, .string c.v.s] 121)) hgrow (fun q hq e => owns_apart HP7.out HO7.out (by decide) q hq e))
          have HNR := Hid.mk' ((HR7.out.ext ((Ext.refl _).alloc (.cells #[.int .u8 c.k, .int .u8 c.v.ty, .int .i64 c.v.n, .int .u64 c.v.x, .int .u64 c.v.y, .string c.v.s] 121))).grown hgrow (fun j hj => by have := hl7 j hj; omega))
          have HNT := Hid.mk' ((HT7.out.alloc (.cells #[.int .u8 c.k, .int .u8 c.v.ty, .int .i64 c.v.n, .int .u64 c.v.x, .int .u64 c.v.y, .string c.v.s] 121)).grown hgrow (fun j hj => (hl7 j hj).1))
          have HNW := Hid.mk' ((HV7.out.alloc (.cells #[.int .u8 c.k, .int .u8 c.v.ty, .int .i64 c.v.n, .int .u64 c.v.x, .int .u64 c.v.y, .string c.v.s] 121)).grown hgrow (fun j hj => by have := hl7 j hj; simp; omega))
          clear hown' hgrow hl7 hl1 hl2 k7 z7 HO7 HP7 HR7 HT7 HV7
          by_cases hm : 0 < m
          · rw [if_pos hm] at HS
            go_upto_region 20 with (at_builtin; refine wpList_append_own _ rfl _ _ 85 rfl w5.heap.size 97 j0 _ 2 16 Try.underlying85 hj hy0 hy1 hy2 rfl (by decide) _ _ _ rfl (HN2.out.alloc _) ⟨_, 0, none⟩ 1 1 (Ho.cells ⟨k, m⟩) rfl rfl ?d1 ?d2 ?d3 ?d4 ?d5 ?_)
            case d1 => exact cells_new _ #[.int .i64 (k : Int), .int .i64 (m : Int)] _
            case d2 => intro u hu; simp [Ho.cells] at hu; rcases hu with rfl | rfl <;> rfl
            case d3 => unfold maxLen; omega
            case d4 => omega
            case d5 => have := HNT.out.size; simp; omega
            intro u' w9 hown' hgrow _
            have hl7 := owns_lt2 HN2.out
            have HM2 := Hid.mk' hown'
            have HM1 := Hid.mk' (owns_grown2 (HN1.out.alloc (.cells #[.int .i64 (k : Int), .int .i64 (m : Int)] 97)) hgrow (fun q hq e => owns_apart HN1.out HN2.out (by decide) q hq e))
            have HMR := Hid.mk' ((HNR.out.ext ((Ext.refl _).alloc (.cells #[.int .i64 (k : Int), .int .i64 (m : Int)] 97))).grown hgrow (fun j hj => by have := hl7 j hj; omega))
            have HMT := Hid.mk' ((HNT.out.alloc (.cells #[.int .i64 (k : Int), .int .i64 (m : Int)] 97)).grown hgrow (fun j hj => (hl7 j hj).1))
            have HMW := Hid.mk' ((HNW.out.alloc (.cells #[.int .i64 (k : Int), .int .i64 (m : Int)] 97)).grown hgrow (fun j hj => by have := hl7 j hj; simp; omega))
            clear hown' hgrow hl7 HN1 HN2 HNR HNT HNW
            go_wp2
            go_roundw
            case rel => exact ⟨k + 1, by omega, by go_num, Hid.mk' (by rw [HS.out, List.map_append, List.flatten_append]; simpa using HM1.out), Hid.mk' (by rw [HS.out, List.map_append, List.flatten_append, List.length_append]; simpa using HM2.out), Hid.mk' (by rw [HS.out]; exact HMR.out), HMT, HMW⟩
            case measure => simp [intOf]; omega
          · rw [if_neg hm] at HS
            have hm0 : m = 0 := by omega
            subst hm0
            go_wp2
            go_roundw
            case rel => exact ⟨k + 1, by omega, by go_num, Hid.mk' (by rw [HS.out, List.map_append, List.flatten_append]; simpa using HN1.out), Hid.mk' (by rw [HS.out]; exact HN2.out), Hid.mk' (by rw [HS.out]; exact HNR.out), HNT, HNW⟩
            case measure => simp [intOf]; omega
      · have hkk : k = L.length := by omega
        subst hkk
        have hkl := HTlen.out _ (Nat.le_refl _)
        have HF := HTfin
        obtain ⟨P, hP⟩ : ∃ P, P = T L.length := ⟨_, rfl⟩
        rw [← hP] at HF hown hown2 hr hkl
        have hTw : Hid (Tch g w wr) := Hid.mk' ((Tch.of_ext ((Ext.refl w).alloc _)).trans hTW.out)
        have hz6 := hT5.out.size
        obtain ⟨a8, c8, rfl⟩ := owns_shape hown.out
        obtain ⟨a9, c9, rfl⟩ := owns_shape hown2.out
        have bdP := hr.out.bad
        have hLc : cols.length ≤ L.length := by have := HLN.out; omega
        have glP := hr.out.lt
        clear hP HTlen HThol HTnull HTcell HTfin
        by_cases hpe : P.2.e = 0
        · have hpe2 : (P.2.e != 0) = false := by simpa using hpe
          have HFF := Hid.mk' (HF.out.trans (show finT P = P by unfold finT; rw [if_neg (by simpa using hpe)]))
          clear hpe
          go_wp2
          go_ret2
          rw [HFF.out]
          unfold RTkPost
          rw [hkl]
          refine ⟨a8, c8, a9, c9, rfl, ?_, ?_, fun q o e => by have := owns_at hown.out q o e; omega, fun q o e => by have := owns_at hown2.out q o e; omega, hr.out, hTw.out⟩
          · have := Sl.of_owns (base := w5.heap.size) (e := 121) (xss := P.1.1.map K.rc) (by rw [List.length_map, hkl]; exact hown.out) rc_len
            exact this
          · have := Sl.of_owns (base := w5.heap.size) (e := 97) (xss := P.1.2.map Ho.cells) (by rw [List.length_map]; exact hown2.out) ho_len
            exact this
        · have hpe2 : (P.2.e != 0) = true := by simpa using hpe
          have HFF := Hid.mk' (HF.out.trans (show finT P = (([], []), P.2) by unfold finT; rw [if_pos hpe]))
          clear hpe
          go_wp2
          go_ret2
          exact RTkPost.bad HFF.out hr.out hTw.out


end Go.Proofs.Ytdbepkfblfhlhaa

/-
The two ways to take a row come to the same.
-/
namespace Go.Proofs.Ytdbepkfblfhlhaa
open Go.RowKit

theorem preC_gave {kind ver : Int} {e : Int} (he : e ≠ 0) : (preC kind ver ⟨[], e⟩).2 = ⟨[], e⟩ := by
  unfold preC
  split
  · exact giveS_gave 18 he
  · split
    · exact giveS_gave 11 he
    · split
      · unfold firstC
        simp only [byteR_gave he]
        rw [if_pos he]
      · split
        · unfold secondC
          simp only [uintR_gave he]
          rw [if_pos he]
        · exact takeV_gave he
theorem takeC_gave {kind ver : Int} {e : Int} (he : e ≠ 0) : (takeC kind ver ⟨[], e⟩).2 = ⟨[], e⟩ := by
  unfold takeC finC
  split
  · exact preC_gave he
  · exact preC_gave he
theorem tkUp_gave {nulls : List Bool} {cols : List Col} {ver : Int} {e : Int} (he : e ≠ 0) : ∀ k, (tkUp nulls cols ver ⟨[], e⟩ k).2 = ⟨[], e⟩
  | 0 => rfl
  | k + 1 => by
    have ih := tkUp_gave (nulls := nulls) (cols := cols) (ver := ver) he k
    unfold tkUp
    split
    · split
      · exact ih
      · simp only; rw [ih]; exact takeC_gave he
    · exact ih
theorem ofBytes_zeros : ∀ k, ofBytes (List.replicate k 0) = 0
  | 0 => rfl
  | k + 1 => by rw [List.replicate_succ, ofBytes, ofBytes_zeros k]; rfl
theorem finT_bad {t : (List K × List Ho) × RS} (h : t.2.e ≠ 0) : finT t = (([], []), t.2) := by unfold finT; rw [if_pos h]
theorem take_same (r : Rl) (ver : Int) (st : RS) : takeP r ver st = takeT r ver st := by
  unfold takeP takeT
  by_cases h0 : (begR r ver st).e ≠ 0
  · rw [if_pos h0, if_pos h0]
  rw [if_neg h0, if_neg h0]
  have he : (begR r ver st).e = 0 := by simpa using h0
  generalize begR r ver st = S at he
  generalize r.cols.length = n
  by_cases hs : S.l.length < mapSize n
  · have hm : mapS n S = ⟨[], 1⟩ := by unfold mapS giveS; rw [if_pos hs, if_pos he]
    have hb : bytesR (mapSize n) S = ([], ⟨[], 1⟩) := by unfold bytesR giveS; rw [if_pos hs, if_pos he]
    rw [hb, if_pos (show (1 : Int) ≠ 0 by decide)]
    have h1 : (1 : Int) ≠ 0 := by decide
    have hmr : (mapR n S).2 = ⟨[], 1⟩ := by
      unfold mapR
      simp only
      rw [hm, byByte_gave h1]
      simp only
      unfold unmapL failS
      rw [ofBytes_zeros, if_neg (by simp)]
    rw [hmr, finT_bad (by rw [tkUp_gave h1]; exact h1), tkUp_gave h1]
  · have hm : mapS n S = S := by unfold mapS; rw [if_neg hs]
    have hb : bytesR (mapSize n) S = (S.l.take (mapSize n), ⟨S.l.drop (mapSize n), S.e⟩) := by unfold bytesR; rw [if_neg hs]
    rw [hb, if_neg (show ¬ ((⟨S.l.drop (mapSize n), S.e⟩ : RS).e ≠ 0) by simpa using he)]
    unfold mapR
    rw [hm, byByte_has S _ (by omega)]

end Go.Proofs.Ytdbepkfblfhlhaa

/-
Opening any arguments by their types (structs and arrays laid flat; slices), and closing a law's row: true, and all reads as it did.
-/
namespace Go.Proofs.Ytdbepkfblfhlhaa
open Go.RowKit Go.ChangeShapes Go.WideShapes Go.ChangeAt

section
variable {H : Type} {enc : TypeId × Value → H} {P : Program} {w : World} {base : Nat} {spare : Nat → Bool} {held : Bool}

/-- A cell of some type. -/
def Lf (enc : TypeId × Value → H) (P : Program) (w : World) (base : Nat) (spare : Nat → Bool) (held : Bool) (t : TypeId) (c : Value) : Prop := ∃ n x, DataW.trod enc P w base spare held n t [c] = some x

def Lfs (enc : TypeId × Value → H) (P : Program) (w : World) (base : Nat) (spare : Nat → Bool) (held : Bool) : List TypeId → List Value → Prop
  | [], [] => True
  | t :: ts, c :: cs => Lf enc P w base spare held t c ∧ Lfs enc P w base spare held ts cs
  | _, _ => False

theorem Lfs.append : ∀ (ts us : List TypeId) (cs : List Value), Lfs enc P w base spare held ts (cs.take ts.length) → Lfs enc P w base spare held us (cs.drop ts.length) → Lfs enc P w base spare held (ts ++ us) cs
  | [], us, cs, _, h => by simpa using h
  | t :: ts, us, [], h, _ => by simp [Lfs] at h
  | t :: ts, us, c :: cs, h, h' => by
    simp only [List.length_cons, List.take_succ_cons, Lfs] at h
    exact ⟨h.1, Lfs.append ts us cs h.2 (by simpa using h')⟩

def offs (P : Program) : Nat → List Field → List (List TypeId) → Bool
  | _, [], [] => true
  | o, f :: fs, l :: ls => f.offset == o && P.cellsOf f.type == l.length && offs P (o + l.length) fs ls
  | _, _, _ => false

/-- The types of a type's cells. -/
def flat (P : Program) : Nat → TypeId → Option (List TypeId)
  | 0, _ => none
  | k + 1, t =>
    match P.underlying t with
    | some (.struct fs) => (fs.toList.mapM fun f => flat P k f.type).bind fun ls => if offs P 0 fs.toList ls && P.cellsOf t == ls.flatten.length then some ls.flatten else none
    | some (.array n e) => (flat P k e).bind fun l => if P.cellsOf e == l.length && P.cellsOf t == n * l.length then some (List.replicate n l).flatten else none
    | _ => some [t]

theorem trod_single {n : Nat} {t : TypeId} {cs : List Value} {x : DataW H × List MemPlace} (h : DataW.trod enc P w base spare held n t cs = some x)
    (h1 : ∀ fs, P.underlying t ≠ some (.struct fs)) (h2 : ∀ n e, P.underlying t ≠ some (.array n e)) : ∃ c, cs = [c] := by
  cases n with
  | zero => simp [DataW.trod] at h
  | succ n =>
    unfold DataW.trod at h
    split at h
    all_goals first
      | exact ⟨_, rfl⟩
      | (rename_i h3; exact absurd h3 (h1 _))
      | (rename_i h3; exact absurd h3 (h2 _ _))
      | simp at h

theorem offs_open (k : Nat) (ih : ∀ (t : TypeId) (ts : List TypeId) (n : Nat) (cs : List Value) (x : DataW H × List MemPlace), flat P k t = some ts → DataW.trod enc P w base spare held n t cs = some x → Lfs enc P w base spare held ts cs)
    (n : Nat) (cs : List Value) : ∀ (fs : List Field) (ls : List (List TypeId)) (o : Nat), offs P o fs ls = true → (fs.mapM fun f => flat P k f.type) = some ls →
    cs.length = o + ls.flatten.length →
    (∀ f ∈ fs, ∃ y, DataW.trod enc P w base spare held n f.type ((cs.drop f.offset).take (P.cellsOf f.type)) = some y) → Lfs enc P w base spare held ls.flatten (cs.drop o) := by
  intro fs
  induction fs with
  | nil =>
    intro ls o ho hm hl _
    cases ls with
    | nil => simp at hl; rw [List.drop_eq_nil_of_le (by omega)]; trivial
    | cons l ls => simp [offs] at ho
  | cons f fs ih2 =>
    intro ls o ho hm hl hf
    cases ls with
    | nil => simp [offs] at ho
    | cons l ls =>
      simp only [offs, Bool.and_eq_true, beq_iff_eq] at ho
      obtain ⟨⟨ho1, ho2⟩, ho3⟩ := ho
      simp only [List.mapM_cons, Option.bind_eq_bind, Option.bind_eq_some_iff, Option.pure_def, Option.some.injEq, List.cons.injEq] at hm
      obtain ⟨l', h1, ls', h2, rfl, rfl⟩ := hm
      obtain ⟨y, hy⟩ := hf f (by simp)
      rw [ho1, ho2] at hy
      have a1 := ih f.type l' n _ y h1 hy
      simp only [List.flatten_cons, List.length_append] at hl
      have a2 := ih2 ls' (o + l'.length) ho3 h2 (by omega) (fun g hg => hf g (by simp [hg]))
      rw [List.flatten_cons]
      exact Lfs.append l' ls'.flatten _ a1 (by rw [List.drop_drop]; exact a2)

theorem arr_open (l : List TypeId) (e : TypeId) (n : Nat) (he : P.cellsOf e = l.length) (h1 : ∀ cs x, DataW.trod enc P w base spare held n e cs = some x → Lfs enc P w base spare held l cs) (cs : List Value) :
    ∀ (m i : Nat), cs.length = (i + m) * l.length → (∀ j, i ≤ j → j < i + m → ∃ y, DataW.trod enc P w base spare held n e ((cs.drop (j * P.cellsOf e)).take (P.cellsOf e)) = some y) →
    Lfs enc P w base spare held (List.replicate m l).flatten (cs.drop (i * l.length)) := by
  intro m
  induction m with
  | zero => intro i hl _; rw [List.drop_eq_nil_of_le (by simp at hl; omega)]; simp [Lfs]
  | succ m ih =>
    intro i hl hf
    obtain ⟨y, hy⟩ := hf i (by omega) (by omega)
    rw [he] at hy
    have a1 := h1 _ y hy
    have a2 := ih (i + 1) (by rw [hl]; congr 1; omega) (fun j h1 h2 => hf j (by omega) (by omega))
    rw [List.replicate_succ, List.flatten_cons]
    refine Lfs.append l _ _ a1 ?_
    rw [List.drop_drop, ← Nat.succ_mul]
    exact a2

theorem flat_open (k : Nat) : ∀ (t : TypeId) (ts : List TypeId) (n : Nat) (cs : List Value) (x : DataW H × List MemPlace), flat P k t = some ts → DataW.trod enc P w base spare held n t cs = some x → Lfs enc P w base spare held ts cs := by
  induction k with
  | zero => intro t ts n cs x h; simp [flat] at h
  | succ k ih =>
    intro t ts n cs x h hx
    unfold flat at h
    split at h
    · rename_i fs hu
      obtain ⟨xs, m, _, rfl, hlen, hxl, hf⟩ := DataW.trod_struct hu hx
      simp only [Option.bind_eq_some_iff] at h
      obtain ⟨ls, hm, h⟩ := h
      split at h
      · rename_i hc
        rw [Bool.and_eq_true, beq_iff_eq] at hc
        cases h
        have := offs_open k ih m cs fs.toList ls 0 hc.1 hm (by rw [hlen, hc.2, Nat.zero_add]) (fun f hfm => by
          obtain ⟨i, hi, hif⟩ := List.mem_iff_getElem.1 hfm
          have hi' : i < fs.size := by simpa using hi
          have g : fs[i]? = some f := by rw [← hif]; simp [hi']
          have := hf i f g
          rw [List.getElem?_eq_getElem (by omega)] at this
          exact ⟨_, this⟩)
        simpa using this
      · cases h
    · rename_i m e hu
      obtain ⟨xs, q, _, rfl, hlen, hxl, hf⟩ := DataW.trod_array hu hx
      simp only [Option.bind_eq_some_iff] at h
      obtain ⟨l, hl, h⟩ := h
      split at h
      · rename_i hc
        rw [Bool.and_eq_true, beq_iff_eq, beq_iff_eq] at hc
        cases h
        have := arr_open (enc := enc) (P := P) (w := w) (base := base) (spare := spare) (held := held) l e q hc.1 (fun cs y hy => ih e l q cs y hl hy) cs m 0 (by rw [hlen, hc.2, Nat.zero_add]) (fun j _ hj => by
          have := hf j (by omega)
          rw [List.getElem?_eq_getElem (by omega)] at this
          exact ⟨_, this⟩)
        simpa using this
      · cases h
    · rename_i h1 h2
      cases h
      obtain ⟨c, rfl⟩ := trod_single hx (fun fs e => h1 fs e) (fun n e he => h2 n e he)
      exact ⟨⟨n, x, hx⟩, trivial⟩

theorem Lf.int {t : TypeId} {c : Value} {k : IntKind} (h : Lf enc P w base spare held t c) (ht : P.underlying t = some (.int k)) : ∃ n, c = .int k n ∧ (Lit.int k n).wf = true := by
  obtain ⟨m, x, h⟩ := h
  obtain ⟨n, h1, _, h3⟩ := DataW.trod_int ht h
  cases h1
  exact ⟨n, rfl, h3⟩
theorem Lf.string {t : TypeId} {c : Value} (h : Lf enc P w base spare held t c) (ht : P.underlying t = some .string) : ∃ s : ByteArray, c = .string s ∧ s.size ≤ 9223372036854775807 := by
  obtain ⟨m, x, h⟩ := h
  obtain ⟨n, h1, _, h3⟩ := DataW.trod_string ht h
  cases h1
  exact ⟨n, rfl, h3⟩
theorem Lf.bool {t : TypeId} {c : Value} (h : Lf enc P w base spare held t c) (ht : P.underlying t = some .bool) : ∃ b : Bool, c = .bool b := by
  obtain ⟨m, x, h⟩ := h
  obtain ⟨n, h1, _⟩ := DataW.trod_bool ht h
  cases h1
  exact ⟨n, rfl⟩

/-- A slice, opened: its elements' cells, and what each reads as. -/
theorem trod_sl {T E : TypeId} {k n : Nat} {cs : List Value} {x : DataW H × List MemPlace} (ht : P.underlying T = some (.slice E)) (hk : P.cellsOf E = k) (hk0 : 0 < k) (h : DataW.trod enc P w base spare held n T cs = some x) :
    ∃ v xss, cs = [v] ∧ Sl w v k xss ∧ xss.length ≤ 9223372036854775807 ∧ ∀ xs ∈ xss, xs.length = k ∧ ∃ n x, DataW.trod enc P w base spare held n E xs = some x := by
  rcases Go.Deep.open_slice ht h with ⟨rfl, _⟩ | ⟨a, len, cap, m, q, D, Pl, rfl, hb, hl, hm, hmm, _, hx⟩
  · exact ⟨_, [], rfl, ⟨none, 0, rfl, .inl rfl⟩, by simp, by simp⟩
  · have hlm : len ≤ m := by rw [hmm]; split <;> omega
    have hall : ∀ i, i < len → ∃ cs', w.cells? base (a.add (i * k)) k = some cs' ∧ DataW.trod enc P w base spare held q E cs' = some (D i, Pl i) := fun i hi => by
      have := hx i (by omega); rwa [hk] at this
    obtain ⟨C, hC⟩ := Go.Deep.choose_lt hall
    have hcl : cap ≤ 9223372036854775807 := hm
    refine ⟨_, (List.range len).map C, rfl, ?_, by simp; omega, ?_⟩
    · refine ⟨some a, cap, by simp, ?_⟩
      by_cases h0 : len = 0
      · subst h0; exact .inl rfl
      · right
        have hc0 := (World.cells?_some (hC 0 (by omega)).1)
        have e0 : (a.add (0 * k)).add 0 = a := by unfold Addr.add; simp
        have hcell : (w.cell? a).isSome = true := by
          have := hc0.2.2 0 hk0
          rw [e0] at this
          rw [this, List.getElem?_eq_getElem (by omega)]; rfl
        have hsp : a.spot = none := by
          unfold World.cell? at hcell
          split at hcell
          · split at hcell
            · simp at hcell
            · rename_i hs; simpa using hs
          · simp at hcell
        have hlt : a.block < w.heap.size := by
          unfold World.cell? at hcell
          rcases Nat.lt_or_ge a.block w.heap.size with h1 | h1
          · exact h1
          · rw [Array.getElem?_eq_none h1] at hcell; simp at hcell
        refine ⟨a.block, a.off, by cases a; simp at hsp; subst hsp; rfl, hlt, ?_⟩
        intro i hi j hj
        simp only [List.length_map, List.length_range] at hi
        have h2 := (World.cells?_some (hC i hi).1).2.2 j hj
        rw [Go.Deep.add_add] at h2
        have e : a.add (i * k + j) = ⟨a.block, a.off + i * k + j, none⟩ := by
          unfold Addr.add
          split
          · rename_i hz
            have h3 : i * k = 0 := by omega
            have h4 : j = 0 := by omega
            cases a; simp at hsp; subst hsp; simp [h3, h4]
          · cases a; simp at hsp; subst hsp; simp
        rw [e] at h2
        rw [h2]
        simp [hi]
    · intro xs hxs
      simp only [List.mem_map, List.mem_range] at hxs
      obtain ⟨i, hi, rfl⟩ := hxs
      exact ⟨(World.cells?_some (hC i hi).1).2.1, _, _, (hC i hi).2⟩

theorem exists_map {α β : Type} {f : α → β} {p : α → Prop} : ∀ (l : List β), (∀ y ∈ l, ∃ x, y = f x ∧ p x) → ∃ l' : List α, l = l'.map f ∧ ∀ x ∈ l', p x
  | [], _ => ⟨[], rfl, by simp⟩
  | y :: l, h => by
    obtain ⟨x, hx, hp⟩ := h y (by simp)
    obtain ⟨l', hl, hl'⟩ := exists_map l (fun z hz => h z (by simp [hz]))
    exact ⟨x :: l', by rw [hx, hl]; rfl, by intro z hz; rcases List.mem_cons.1 hz with rfl | hz; exact hp; exact hl' z hz⟩

/-- All arguments read as they did. -/
theorem trodAll_stays {W W' : World} (hl : laidOutB P = true) (hE : Ext W W') : ∀ (ts : List TypeId) (vs : List Value) (ds : List (DataW H)) (ps : List MemPlace), (∀ t ∈ ts, P.readableRec t = true ∧ t < P.types.size) →
    DataW.TrodAll enc P W 0 (fun _ => true) true ts vs ds ps → (∀ x ∈ ps, x.block < W.heap.size) → DataW.TrodAll enc P W' 0 (fun b => decide (b < W.heap.size)) true ts vs ds ps
  | [], [], [], ps, _, h, _ => h
  | t :: ts, v :: vs, d :: ds, ps, hr, h, hlt => by
    obtain ⟨p, q, h1, h2, rfl⟩ := h
    refine ⟨p, q, Below.trod hl (hr t (by simp)).1 (hr t (by simp)).2 h1 hE (fun x hx => hlt x (by simp [hx])), ?_, rfl⟩
    exact trodAll_stays hl hE ts vs ds q (fun u hu => hr u (by simp [hu])) h2 (fun x hx => hlt x (by simp [hx]))
  | [], _ :: _, _, _, _, h, _ => by simp [DataW.TrodAll] at h
  | [], [], _ :: _, _, _, h, _ => by simp [DataW.TrodAll] at h
  | _ :: _, [], _, _, _, h, _ => by simp [DataW.TrodAll] at h
  | _ :: _, _ :: _, [], _, _, h, _ => by simp [DataW.TrodAll] at h

/-- A law's row: it answered true; what was there is as it was. -/
theorem post_law {f : Func} {s : ChangeSpec} {apart : Bool} {W W' : World} {args : Array Value} {ds gs : List (DataW H)} {before : List MemPlace} {tb : TypeId}
    (hl : laidOutB P = true) (hb : P.underlying tb = some .bool) (hrt : f.resultTypes = #[tb]) (hr : f.params.toList.all (fun t => P.readableRec t && decide (t < P.types.size)) = true) (hv : s.vars = [])
    (hW : DataW.Whole enc P f.params.toList s.vars apart W args.toList ds gs before)
    (h1 : (s.fn H (ds ++ gs)).results = [.lit (.bool true)]) (h2 : (s.fn H (ds ++ gs)).args = ds) (h3 : (s.fn H (ds ++ gs)).vars = []) (hE : Ext W W') :
    s.post enc P f apart true false false W args (.bool true) W' := by
  have hW' := hW
  have hlt := hW.lt
  obtain ⟨p, q, hA, hV, rfl, _, _⟩ := hW
  refine ⟨ds, gs, p ++ q, [], p, [], hW', ?_, ?_, ?_, Below.frame hE _, fun h => by cases h⟩
  · rw [h1, hrt]
    exact trodAll_mk1 (shut_bool hb true)
  · rw [h2]
    refine trodAll_stays hl hE _ _ _ _ (fun t ht => ?_) hA (fun x hx => by simpa using hlt x (by simp [hx]))
    have := List.all_eq_true.1 hr t ht
    simpa using this
  · rw [hv, h3]; rfl
end

end Go.Proofs.Ytdbepkfblfhlhaa

/-
Arguments of the common types, opened.
-/
namespace Go.Proofs.Ytdbepkfblfhlhaa
open Go.RowKit Go.ChangeShapes Go.WideShapes Go.ChangeAt

theorem Try.ownG : ownKnob Try.prog.godebug = none := by kernel_rfl
theorem Try.laidOutG : laidOutB Try.prog = true := by kernel_rfl

theorem wfG_u8 {n : Int} (h : (Lit.int .u8 n).wf = true) : 0 ≤ n ∧ n < 256 := by
  simp [Lit.wf, IntKind.min, IntKind.max, IntKind.signed, IntKind.bits] at h; omega
theorem wfG_u16 {n : Int} (h : (Lit.int .u16 n).wf = true) : 0 ≤ n ∧ n < 65536 := by
  simp [Lit.wf, IntKind.min, IntKind.max, IntKind.signed, IntKind.bits] at h; omega
theorem wfG_u32 {n : Int} (h : (Lit.int .u32 n).wf = true) : 0 ≤ n ∧ n < 4294967296 := by
  simp [Lit.wf, IntKind.min, IntKind.max, IntKind.signed, IntKind.bits] at h; omega
theorem wfG_u64 {n : Int} (h : (Lit.int .u64 n).wf = true) : 0 ≤ n ∧ n < 18446744073709551616 := by
  simp [Lit.wf, IntKind.min, IntKind.max, IntKind.signed, IntKind.bits] at h; omega
theorem wfG_i64 {n : Int} (h : (Lit.int .i64 n).wf = true) : -9223372036854775808 ≤ n ∧ n < 9223372036854775808 := by
  simp [Lit.wf, IntKind.min, IntKind.max, IntKind.signed, IntKind.bits] at h; omega

section
variable {H : Type} {enc : TypeId × Value → H} {w : World} {base : Nat} {spare : Nat → Bool} {held : Bool} {r : Reach} {base2 : Nat} {v : Value} {d : DataW H} {ps : List MemPlace}

theorem openG_int {P : Program} {t : TypeId} {k : IntKind} (ht : P.underlying t = some (.int k)) (h : DataW.Trod enc P w base spare held t v d ps) (hv : Value.okWide P w r base2 t v) : ∃ n, v = .int k n ∧ (Lit.int k n).wf = true := by
  obtain ⟨m, rfl⟩ := okWide_int ht hv
  obtain ⟨n, hn⟩ := h
  have hl : Lf enc P w base spare held t (.int k m) := ⟨n, _, hn⟩
  obtain ⟨q, hq, hw⟩ := hl.int ht
  cases hq
  exact ⟨m, rfl, hw⟩
theorem openG_string {P : Program} {t : TypeId} (ht : P.underlying t = some .string) (h : DataW.Trod enc P w base spare held t v d ps) (hv : Value.okWide P w r base2 t v) : ∃ s : ByteArray, v = .string s ∧ s.size ≤ 9223372036854775807 := by
  obtain ⟨m, rfl⟩ := okWide_string ht hv
  obtain ⟨n, hn⟩ := h
  have hl : Lf enc P w base spare held t (.string m) := ⟨n, _, hn⟩
  obtain ⟨q, hq, hw⟩ := hl.string ht
  cases hq
  exact ⟨m, rfl, hw⟩
/-- A slice of anything, opened by its element. -/
theorem openG_slice {α : Type} {f : α → List Value} {p : α → Prop} {P : Program} {T E : TypeId} {k : Nat} (ht : P.underlying T = some (.slice E)) (hk : P.cellsOf E = k) (hk0 : 0 < k)
    (ho : ∀ n xs x, DataW.trod enc P w base spare held n E xs = some x → ∃ a, xs = f a ∧ p a)
    (h : DataW.Trod enc P w base spare held T v d ps) (hv : Value.okWide P w r base2 T v) : ∃ l : List α, Sl w v k (l.map f) ∧ l.length ≤ 9223372036854775807 ∧ ∀ a ∈ l, p a := by
  obtain ⟨a, len, cap, rfl⟩ := okWide_slice ht hv
  obtain ⟨n, hn⟩ := h
  obtain ⟨v', xss, hcs, hsl, hlen, hx⟩ := trod_sl ht hk hk0 hn
  have e : v' = .slice a len cap := by simpa [Value.cells] using hcs.symm
  obtain ⟨l, rfl, hl⟩ := exists_map (f := f) (p := p) xss (fun xs hxs => by
    obtain ⟨_, n, x, h⟩ := hx xs hxs
    exact ho n xs x h)
  rw [e] at hsl
  exact ⟨l, hsl, by simpa using hlen, hl⟩
theorem Try.flatU8 : flat Try.prog 4 5 = some [5] := by kernel_rfl
theorem Try.cellsU8 : Try.prog.cellsOf 5 = 1 := by kernel_rfl
set_option maxRecDepth 20000 in
theorem openG_bytes (h : DataW.Trod enc Try.prog w base spare held 80 v d ps) (hv : Value.okWide Try.prog w r base2 80 v) : ∃ l : List Int, Sl w v 1 (l.map bcell) ∧ l.length ≤ 9223372036854775807 ∧ isB l := by
  refine openG_slice (f := bcell) (p := fun x => 0 ≤ x ∧ x < 256) Try.underlying80 Try.cellsU8 (by decide) (fun n xs x hx => ?_) h hv
  have hl := flat_open 4 _ _ n xs x Try.flatU8 hx
  match xs, hl with
  | [c0], ⟨l0, _⟩ =>
    obtain ⟨ty, rfl, h0⟩ := l0.int Try.underlying5
    exact ⟨ty, rfl, wfG_u8 h0⟩
/-- A nil slice of the arguments is the nil one. -/
theorem openG_nil {P : Program} {T E : TypeId} (ht : P.underlying T = some (.slice E)) (h : DataW.Trod enc P w base spare held T v d ps) (hv : Value.okWide P w r base2 T v) : ∀ len cap, v = .slice none len cap → v = .slice none 0 0 := by
  obtain ⟨a, len, cap, rfl⟩ := okWide_slice ht hv
  obtain ⟨n, hn⟩ := h
  intro l c he
  rcases Go.Deep.open_slice ht hn with ⟨e, _⟩ | ⟨a', len', cap', m, q, D, Pl, e, _⟩
  · simpa [Value.cells] using e
  · simp [Value.cells] at e; obtain ⟨rfl, _⟩ := e; simp at he
end

end Go.Proofs.Ytdbepkfblfhlhaa

/-
Cells of the arguments, opened.
-/
namespace Go.Proofs.Ytdbepkfblfhlhaa
open Go.RowKit Go.ChangeShapes Go.WideShapes Go.ChangeAt

theorem Try.flatCellG : flat Try.prog 4 121 = some [5, 5, 2, 57, 57, 9] := by kernel_rfl
section
variable {H : Type} {enc : TypeId × Value → H} {w : World} {base : Nat} {spare : Nat → Bool} {held : Bool} {r : Reach} {base2 : Nat} {v : Value} {d : DataW H} {ps : List MemPlace}
set_option maxRecDepth 20000 in
theorem openC_list {n : Nat} {cs : List Value} {x : DataW H × List MemPlace} (h : DataW.trod enc Try.prog w base spare held n 121 cs = some x) :
    ∃ (k ty m : Int) (a b : Nat) (s : ByteArray), cs = [.int .u8 k, .int .u8 ty, .int .i64 m, .int .u64 a, .int .u64 b, .string s] ∧ (0 ≤ k ∧ k < 256) ∧ (0 ≤ ty ∧ ty < 256) ∧ (-9223372036854775808 ≤ m ∧ m < 9223372036854775808) ∧ a < 2 ^ 64 ∧ b < 2 ^ 64 ∧ s.size ≤ 9223372036854775807 := by
  have hl := flat_open 4 _ _ n cs x Try.flatCellG h
  match cs, hl with
  | [c0, c1, c2, c3, c4, c5], ⟨l0, l1, l2, l3, l4, l5, _⟩ =>
    obtain ⟨k, rfl, h0⟩ := l0.int Try.underlying5
    obtain ⟨ty, rfl, h1⟩ := l1.int Try.underlying5
    obtain ⟨m, rfl, h2⟩ := l2.int Try.underlying2
    obtain ⟨a, rfl, h3⟩ := l3.int Try.underlying57
    obtain ⟨b, rfl, h4⟩ := l4.int Try.underlying57
    obtain ⟨s, rfl, h5⟩ := l5.string Try.underlying9
    obtain ⟨a, rfl⟩ := Int.eq_ofNat_of_zero_le (wfG_u64 h3).1
    obtain ⟨b, rfl⟩ := Int.eq_ofNat_of_zero_le (wfG_u64 h4).1
    exact ⟨k, ty, m, a, b, s, rfl, wfG_u8 h0, wfG_u8 h1, wfG_i64 h2, by have := (wfG_u64 h3).2; omega, by have := (wfG_u64 h4).2; omega, h5⟩
set_option maxRecDepth 20000 in
theorem openG_cell (h : DataW.Trod enc Try.prog w base spare held 121 v d ps) (hv : Value.okWide Try.prog w r base2 121 v) :
    ∃ (k ty m : Int) (a b : Nat) (s : ByteArray), v = .agg #[.int .u8 k, .int .u8 ty, .int .i64 m, .int .u64 a, .int .u64 b, .string s] ∧ (0 ≤ k ∧ k < 256) ∧ (0 ≤ ty ∧ ty < 256) ∧ (-9223372036854775808 ≤ m ∧ m < 9223372036854775808) ∧ a < 2 ^ 64 ∧ b < 2 ^ 64 ∧ s.size ≤ 9223372036854775807 := by
  obtain ⟨cs, rfl, _⟩ := okWide_struct Try.underlying121 hv
  obtain ⟨n, hn⟩ := h
  obtain ⟨k, ty, m, x, y, s, hr, h0, h1, hm, hx, hy, hs⟩ := openC_list hn
  exact ⟨k, ty, m, x, y, s, by rw [show cs = #[.int .u8 k, .int .u8 ty, .int .i64 m, .int .u64 x, .int .u64 y, .string s] from Array.toList_inj.1 hr], h0, h1, hm, hx, hy, hs⟩
end

end Go.Proofs.Ytdbepkfblfhlhaa

/-
Relations, columns and rows of the arguments, opened.
-/
namespace Go.Proofs.Ytdbepkfblfhlhaa
open Go.RowKit Go.ChangeShapes Go.WideShapes Go.ChangeAt

theorem Try.flatColG : flat Try.prog 4 123 = some [9, 5, 4] := by kernel_rfl
theorem Try.flatRelG : flat Try.prog 4 27 = some [22, 22, 9, 5, 25] := by kernel_rfl
theorem Try.cellsColG : Try.prog.cellsOf 123 = 3 := by kernel_rfl
theorem Try.cellsCellG : Try.prog.cellsOf 121 = 6 := by kernel_rfl
/-- What is known of a cell of the arguments. -/
structure K.tw (c : K) : Prop extends K.wk c where
  n : -9223372036854775808 ≤ c.v.n ∧ c.v.n < 9223372036854775808
  x : c.v.x < 2 ^ 64
  y : c.v.y < 2 ^ 64
section
variable {H : Type} {enc : TypeId × Value → H} {w : World} {base : Nat} {spare : Nat → Bool} {held : Bool} {r : Reach} {base2 : Nat} {v : Value} {d : DataW H} {ps : List MemPlace}
set_option maxRecDepth 20000 in
theorem openG_row (h : DataW.Trod enc Try.prog w base spare held 31 v d ps) (hv : Value.okWide Try.prog w r base2 31 v) :
    ∃ (l : List K) (a : Option Addr) (cap : Nat), v = .slice a l.length cap ∧ Sl w (.slice a l.length cap) 6 (l.map K.rc) ∧ l.length ≤ 9223372036854775807 ∧ ∀ c ∈ l, c.tw := by
  obtain ⟨l, hsl, hl, hx⟩ := openG_slice (f := K.rc) (p := K.tw) Try.underlying31 Try.cellsCellG (by decide) (fun n xs x hx => by
    obtain ⟨k, ty, m, a, b, s, rfl, hk, ht, hm, hx, hy, hs⟩ := openC_list hx
    exact ⟨⟨k, ⟨ty, m, a, b, s⟩⟩, rfl, ⟨⟨hk.1, hs⟩, hm, hx, hy⟩⟩) h hv
  obtain ⟨a, cap, rfl, hshape⟩ := hsl.shape (n := l.length) (by simp)
  exact ⟨l, a, cap, rfl, hsl, hl, hx⟩
set_option maxRecDepth 20000 in
theorem openG_rel (h : DataW.Trod enc Try.prog w base spare held 27 v d ps) (hv : Value.okWide Try.prog w r base2 27 v) :
    ∃ (oid ver : Int) (nm : ByteArray) (id : Int) (cols : List Col) (a : Option Addr) (cap : Nat), v = .agg #[.int .u32 oid, .int .u32 ver, .string nm, .int .u8 id, .slice a cols.length cap] ∧ Sl w (.slice a cols.length cap) 3 (cols.map Col.cells) ∧ cols.length ≤ 9223372036854775807 ∧
      (∀ c ∈ cols, c.nm.size ≤ 9223372036854775807) ∧ nm.size ≤ 9223372036854775807 ∧ (0 ≤ id ∧ id < 256) := by
  obtain ⟨cs, rfl, _⟩ := okWide_struct Try.underlying27 hv
  obtain ⟨n, hn⟩ := h
  have hl := flat_open 4 _ _ n _ _ Try.flatRelG hn
  have hl' : Lfs enc Try.prog w base spare held [22, 22, 9, 5, 25] cs.toList := hl
  obtain ⟨cl, hcl2⟩ : ∃ cl, cs.toList = cl := ⟨_, rfl⟩
  rw [hcl2] at hl'
  match cl, hl' with
  | [c0, c1, c2, c3, c4], ⟨l0, l1, l2, l3, l4, _⟩ =>
    obtain ⟨oid, rfl, h0⟩ := l0.int Try.underlying22
    obtain ⟨ver, rfl, h1⟩ := l1.int Try.underlying22
    obtain ⟨nm, rfl, h2⟩ := l2.string Try.underlying9
    obtain ⟨id, rfl, h3⟩ := l3.int Try.underlying5
    obtain ⟨m, x, h4⟩ := l4
    obtain ⟨v', xss, hcs, hsl, hlen, hx⟩ := trod_sl Try.underlying25 Try.cellsColG (by decide) h4
    obtain rfl : c4 = v' := by simpa using hcs
    obtain ⟨cols, rfl, hl⟩ := exists_map (f := Col.cells) (p := fun c => c.nm.size ≤ 9223372036854775807) xss (fun xs hxs => by
      obtain ⟨_, n, x, h⟩ := hx xs hxs
      have hl := flat_open 4 _ _ n xs x Try.flatColG h
      match xs, hl with
      | [d0, d1, d2], ⟨m0, m1, m2, _⟩ =>
        obtain ⟨s, rfl, hs⟩ := m0.string Try.underlying9
        obtain ⟨ty, rfl, _⟩ := m1.int Try.underlying5
        obtain ⟨b, rfl⟩ := m2.bool Try.underlying4
        exact ⟨⟨s, ty, b⟩, rfl, hs⟩)
    obtain ⟨a, cap, rfl, hshape⟩ := hsl.shape (n := cols.length) (by simp)
    have e : cs = #[.int .u32 oid, .int .u32 ver, .string nm, .int .u8 id, .slice a cols.length cap] := Array.toList_inj.1 hcl2
    exact ⟨oid, ver, nm, id, cols, a, cap, by rw [e], hsl, by simpa using hlen, hl, h2, wfG_u8 h3⟩
end

end Go.Proofs.Ytdbepkfblfhlhaa
