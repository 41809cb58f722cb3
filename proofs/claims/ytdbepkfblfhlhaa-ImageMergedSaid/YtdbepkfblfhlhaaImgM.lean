/-
The walk of ImageMerged.
-/
import Derived.Test.YtdbepkfblfhlhaaMerge
import Derived.Test.YtdbepkfblfhlhaaAlike
import Derived.Test.YtdbepkfblfhlhaaGreatK
import Derived.Test.YtdbepkfblfhlhaaAwake12
namespace Go.Proofs.Ytdbepkfblfhlhaa
open Go.RowKit

theorem mergeK_idem {b l : List K} : mergeK b (mergeK b l) = mergeK b l := by
  apply List.ext_getElem
  · rw [mergeK_len]
  · intro i h1 h2
    have hi : i < l.length := by rwa [mergeK_len] at h2
    rw [mergeK_get, mergeK_get]
    by_cases h : l[i].k = 1
    · rw [if_pos h]
      cases hb : b[i]? with
      | none => simp
      | some c => simp
    · rw [if_neg h, if_neg h]
theorem mergeK_at {b l : List K} {i : Nat} (h : i < l.length) (h2 : i < b.length) : (mergeK b l)[i]'(by rw [mergeK_len]; exact h) = if l[i].k = 1 then b[i] else l[i] := by
  rw [mergeK_get, List.getElem?_eq_getElem h2]; rfl

theorem wpHd_takeD {P : Program} {ops : Array Oper} {Q : Exit → Act → World → Prop} {md : Region.Mode} {S : World → Prop} {n i : Nat} {oi : Oper} {d : Option Tmp} {v : Value} {f : Nat} {listed : Array Bool} {a : Act} {w : World} (hi : ops[i]? = some oi) (hd : oi.dst = d)
    (hB : headB md ops n listed = true) (hf : Region.free md ops listed i = true) (hr : ((Region.ready md ops listed).contains i && decide (i < n)) = true)
    (hQ : ∀ c a w, Q (.panic c) (a.put d v) w → Q (.panic c) a w) (hy : YieldsIf P ops S oi v a) (hS : S w)
    (h : wpHd P md ops Q S n f (listed.setIfInBounds i true) (a.put d v) w) : wpHd P md ops Q S n (f + 1) listed a w := by
  subst hd
  exact wpHd_take hi hB hf hr hQ hy hS h

set_option maxRecDepth 100000 in set_option maxHeartbeats 8000000 in
theorem imgmerged_any (lb la : List K) (ab aa : Option Addr) (cb ca : Nat) (w : World) (hb : Sl w (.slice ab lb.length cb) 6 (lb.map K.rc)) (ha : Sl w (.slice aa la.length ca) 6 (la.map K.rc))
    (hlb : lb.length ≤ 9223372036854775807) (hla : la.length ≤ 9223372036854775807) (hsb : ∀ c ∈ lb, c.wk) (hsa : ∀ c ∈ la, c.wk) :
    Calls Try.prog 8 #[.slice ab lb.length cb, .slice aa la.length ca] w fun e w' => e = .returned (.bool true) ∧ Ext w w' := by
  have HGb := Hid.mk' (fun W (h : Ext w W) => (greatK_any lb ab cb 0 0 ⟨#[]⟩ 0 [] none 0 W (hb.ext h) ⟨none, 0, rfl, .inl rfl⟩ hlb (Nat.zero_le _) (fun c hc => (hsb c hc).s) (fun c hc => by cases hc) (by decide)))
  have HGa := Hid.mk' (fun W (h : Ext w W) => (greatK_any la aa ca 0 0 ⟨#[]⟩ 0 [] none 0 W (ha.ext h) ⟨none, 0, rfl, .inl rfl⟩ hla (Nat.zero_le _) (fun c hc => (hsa c hc).s) (fun c hc => by cases hc) (by decide)))
  by_cases hn : lb.length = la.length
  case neg =>
    have hn' : (((lb.length : Nat) : Int) != ((la.length : Nat) : Int)) = true := by simp; omega
    clear hn hb ha hsb hsa
    go_enter Try.func8, Try.ntmps8
    go_wp2_with (first
      | (go_at_call_of 14 (Value.slice ab lb.length cb); refine (HGb.out _ (by (repeat (with_reducible (first | exact Ext.refl _ | assumption | exact held_left (by assumption) | apply Ext.drewN | apply Ext.drew | apply Ext.alloc | (refine Ext.setCell ?_ (by first | (simp; done) | (simp; omega) | omega) _) | (refine Ext.trans ?_ (by assumption)) | (refine Ext.trans ?_ (held_left (by assumption)))))))).mono ?_; rintro e w1 ⟨g, rfl, hg, hb1⟩; clear hg; cases g)
      | (go_at_call_of 14 (Value.slice aa la.length ca); refine (HGa.out _ (by (repeat (with_reducible (first | exact Ext.refl _ | assumption | exact held_left (by assumption) | apply Ext.drewN | apply Ext.drew | apply Ext.alloc | (refine Ext.setCell ?_ (by first | (simp; done) | (simp; omega) | omega) _) | (refine Ext.trans ?_ (by assumption)) | (refine Ext.trans ?_ (held_left (by assumption)))))))).mono ?_; rintro e w2 ⟨g', rfl, hg', hb2⟩; clear hg'; cases g'))
    all_goals
      go_wp2
      go_ret
      exact ⟨rfl, by (repeat (with_reducible (first | exact Ext.refl _ | assumption | exact held_left (by assumption) | apply Ext.drewN | apply Ext.drew | apply Ext.alloc | (refine Ext.setCell ?_ (by first | (simp; done) | (simp; omega) | omega) _) | (refine Ext.trans ?_ (by assumption)) | (refine Ext.trans ?_ (held_left (by assumption))))))⟩
  have hn' : (((lb.length : Nat) : Int) != ((la.length : Nat) : Int)) = false := by simp; omega
  have HOb := Hid.mk' (fun W (h : Ext w W) (hn : lb.length ≤ 1000) => ownK_any lb ab cb W (hb.ext h) hn)
  have HOa := Hid.mk' (fun W (h : Ext w W) (hn : la.length ≤ 1000) => ownK_any la aa ca W (ha.ext h) hn)
  have HN := Hid.mk' hn
  clear hb ha hsb hsa hn
  go_enter Try.func8, Try.ntmps8
  go_upto_region 3 with (first
    | (go_at_call_of 14 (Value.slice ab lb.length cb); refine (HGb.out _ (by (repeat (with_reducible (first | exact Ext.refl _ | assumption | exact held_left (by assumption) | apply Ext.drewN | apply Ext.drew | apply Ext.alloc | (refine Ext.setCell ?_ (by first | (simp; done) | (simp; omega) | omega) _) | (refine Ext.trans ?_ (by assumption)) | (refine Ext.trans ?_ (held_left (by assumption)))))))).mono ?_; rintro e w1 ⟨g, rfl, hg, hb1⟩; have HB := Hid.mk' hg; clear hg; cases g)
    | (go_at_call_of 14 (Value.slice aa la.length ca); refine (HGa.out _ (by (repeat (with_reducible (first | exact Ext.refl _ | assumption | exact held_left (by assumption) | apply Ext.drewN | apply Ext.drew | apply Ext.alloc | (refine Ext.setCell ?_ (by first | (simp; done) | (simp; omega) | omega) _) | (refine Ext.trans ?_ (by assumption)) | (refine Ext.trans ?_ (held_left (by assumption)))))))).mono ?_; rintro e w2 ⟨g', rfl, hg', hb2⟩; have HA := Hid.mk' hg'; clear hg'; cases g'))
  all_goals try (go_ret; exact ⟨rfl, by (repeat (with_reducible (first | exact Ext.refl _ | assumption | exact held_left (by assumption) | apply Ext.drewN | apply Ext.drew | apply Ext.alloc | (refine Ext.setCell ?_ (by first | (simp; done) | (simp; omega) | omega) _) | (refine Ext.trans ?_ (by assumption)) | (refine Ext.trans ?_ (held_left (by assumption))))))⟩)
  have hnb : lb.length ≤ 1000 := by have := (HB.out (by first | exact rfl | exact trivial)).2.2.1; omega
  have hna : la.length ≤ 1000 := by have := (HA.out (by first | exact rfl | exact trivial)).2.2.1; omega
  clear HB HA HGb HGa
  go_upto_region 4 with (first
    | (go_at_call_of 15 (Value.slice ab lb.length cb); refine (HOb.out _ (by (repeat (with_reducible (first | exact Ext.refl _ | assumption | exact held_left (by assumption) | apply Ext.drewN | apply Ext.drew | apply Ext.alloc | (refine Ext.setCell ?_ (by first | (simp; done) | (simp; omega) | omega) _) | (refine Ext.trans ?_ (by assumption)) | (refine Ext.trans ?_ (held_left (by assumption))))))) hnb).mono ?_; rintro e w3 ⟨b, bc, rfl, _, hs3, hb3⟩; have H3 := Hid.mk' hs3; clear hs3)
    | (go_at_call_of 15 (Value.slice aa la.length ca); refine (HOa.out _ (by (repeat (with_reducible (first | exact Ext.refl _ | assumption | exact held_left (by assumption) | apply Ext.drewN | apply Ext.drew | apply Ext.alloc | (refine Ext.setCell ?_ (by first | (simp; done) | (simp; omega) | omega) _) | (refine Ext.trans ?_ (by assumption)) | (refine Ext.trans ?_ (held_left (by assumption))))))) hna).mono ?_; rintro e w4 ⟨a, ac, rfl, _, hs4, hb4⟩; have H4 := Hid.mk' hs4; clear hs4))
  have H3' := Hid.mk' (H3.out.ext hb4)
  have HE4 := Hid.mk' (show Ext w w4 by (repeat (with_reducible (first | exact Ext.refl _ | assumption | exact held_left (by assumption) | apply Ext.drewN | apply Ext.drew | apply Ext.alloc | (refine Ext.setCell ?_ (by first | (simp; done) | (simp; omega) | omega) _) | (refine Ext.trans ?_ (by assumption)) | (refine Ext.trans ?_ (held_left (by assumption)))))))
  have HMG := Hid.mk' (fun W (l : List K) a cap (hl : l.length = la.length) (h : Ext w4 W) (hs : Sl W (.slice a la.length cap) 5 (l.map K.pc)) => (show Calls Try.prog 35 #[.slice b lb.length bc, .slice a la.length cap] W (fun e w' => ∃ a' cap', e = .returned (.slice a' la.length cap') ∧ la.length ≤ cap' ∧ Sl w' (.slice a' la.length cap') 5 ((mergeK lb l).map K.pc) ∧ Ext W w') from by
    have := merge_any lb l b a bc cap W (H3'.out.ext h) (by rw [hl]; exact hs) hnb (by rw [hl]; exact hna)
    rwa [hl] at this))
  have HAL := Hid.mk' (fun W (l : List K) a1 c1 a2 c2 (hl : l.length = la.length) (hs1 : Sl W (.slice a1 la.length c1) 5 (l.map K.pc)) (hs2 : Sl W (.slice a2 la.length c2) 5 (l.map K.pc)) => (show Calls Try.prog 32 #[.slice a1 la.length c1, .slice a2 la.length c2] W (fun e w' => e = .returned (.bool true) ∧ Ext W w') from by
    have := alike_any l l a1 a2 c1 c2 W (by rw [hl]; exact hs1) (by rw [hl]; exact hs2) (by rw [hl]; exact hna) (by rw [hl]; exact hna)
    rwa [hl, rowB_true.2 rfl] at this))
  have HML := Hid.mk' (mergeK_len (b := lb) (l := la))
  have HMI := Hid.mk' (mergeK_idem (b := lb) (l := la))
  have HMA := Hid.mk' (fun i h h2 => mergeK_at (b := lb) (l := la) (i := i) h h2)
  clear H3 HOb HOa hb1 hb2 hb3 hb4
  go_upto_region 7 with (first
    | (go_at_call_of 35 (Value.slice a la.length ac); refine (HMG.out _ la _ _ rfl (by (repeat (with_reducible (first | exact Ext.refl _ | assumption | exact held_left (by assumption) | apply Ext.drewN | apply Ext.drew | apply Ext.alloc | (refine Ext.setCell ?_ (by first | (simp; done) | (simp; omega) | omega) _) | (refine Ext.trans ?_ (by assumption)) | (refine Ext.trans ?_ (held_left (by assumption))))))) (H4.out.ext (by (repeat (with_reducible (first | exact Ext.refl _ | assumption | exact held_left (by assumption) | apply Ext.drewN | apply Ext.drew | apply Ext.alloc | (refine Ext.setCell ?_ (by first | (simp; done) | (simp; omega) | omega) _) | (refine Ext.trans ?_ (by assumption)) | (refine Ext.trans ?_ (held_left (by assumption))))))))).mono ?_; rintro e w5 ⟨m, mc, rfl, _, hs5, hb5⟩; have H5 := Hid.mk' hs5; clear hs5)
    | (go_at_call_of 35 (Value.slice m la.length mc); (fail_if_success have _ := H6); refine (HMG.out _ (mergeK lb la) _ _ HML.out (by (repeat (with_reducible (first | exact Ext.refl _ | assumption | exact held_left (by assumption) | apply Ext.drewN | apply Ext.drew | apply Ext.alloc | (refine Ext.setCell ?_ (by first | (simp; done) | (simp; omega) | omega) _) | (refine Ext.trans ?_ (by assumption)) | (refine Ext.trans ?_ (held_left (by assumption))))))) (H5.out.ext (by (repeat (with_reducible (first | exact Ext.refl _ | assumption | exact held_left (by assumption) | apply Ext.drewN | apply Ext.drew | apply Ext.alloc | (refine Ext.setCell ?_ (by first | (simp; done) | (simp; omega) | omega) _) | (refine Ext.trans ?_ (by assumption)) | (refine Ext.trans ?_ (held_left (by assumption))))))))).mono ?_; rintro e w6 ⟨a6, c6, rfl, _, hs6, hb6⟩; rw [HMI.out] at hs6; have H6 := Hid.mk' hs6; clear hs6)
    | (go_at_call_of 35 (Value.slice m la.length mc); refine (HMG.out _ (mergeK lb la) _ _ HML.out (by (repeat (with_reducible (first | exact Ext.refl _ | assumption | exact held_left (by assumption) | apply Ext.drewN | apply Ext.drew | apply Ext.alloc | (refine Ext.setCell ?_ (by first | (simp; done) | (simp; omega) | omega) _) | (refine Ext.trans ?_ (by assumption)) | (refine Ext.trans ?_ (held_left (by assumption))))))) (H5.out.ext (by (repeat (with_reducible (first | exact Ext.refl _ | assumption | exact held_left (by assumption) | apply Ext.drewN | apply Ext.drew | apply Ext.alloc | (refine Ext.setCell ?_ (by first | (simp; done) | (simp; omega) | omega) _) | (refine Ext.trans ?_ (by assumption)) | (refine Ext.trans ?_ (held_left (by assumption))))))))).mono ?_; rintro e w7 ⟨a7, c7, rfl, _, hs7, hb7⟩; rw [HMI.out] at hs7; have H7 := Hid.mk' hs7; clear hs7)
    | (go_at_call_of 35 (Value.slice a7 la.length c7); refine (HMG.out _ (mergeK lb la) _ _ HML.out (by (repeat (with_reducible (first | exact Ext.refl _ | assumption | exact held_left (by assumption) | apply Ext.drewN | apply Ext.drew | apply Ext.alloc | (refine Ext.setCell ?_ (by first | (simp; done) | (simp; omega) | omega) _) | (refine Ext.trans ?_ (by assumption)) | (refine Ext.trans ?_ (held_left (by assumption))))))) (H7.out.ext (by (repeat (with_reducible (first | exact Ext.refl _ | assumption | exact held_left (by assumption) | apply Ext.drewN | apply Ext.drew | apply Ext.alloc | (refine Ext.setCell ?_ (by first | (simp; done) | (simp; omega) | omega) _) | (refine Ext.trans ?_ (by assumption)) | (refine Ext.trans ?_ (held_left (by assumption))))))))).mono ?_; rintro e w8 ⟨a8, c8, rfl, _, hs8, hb8⟩; rw [HMI.out] at hs8; have H8 := Hid.mk' hs8; clear hs8)
    | (go_at_call 32; refine (HAL.out _ (mergeK lb la) _ _ _ _ HML.out (H6.out.ext (by (repeat (with_reducible (first | exact Ext.refl _ | assumption | exact held_left (by assumption) | apply Ext.drewN | apply Ext.drew | apply Ext.alloc | (refine Ext.setCell ?_ (by first | (simp; done) | (simp; omega) | omega) _) | (refine Ext.trans ?_ (by assumption)) | (refine Ext.trans ?_ (held_left (by assumption)))))))) (H8.out.ext (by (repeat (with_reducible (first | exact Ext.refl _ | assumption | exact held_left (by assumption) | apply Ext.drewN | apply Ext.drew | apply Ext.alloc | (refine Ext.setCell ?_ (by first | (simp; done) | (simp; omega) | omega) _) | (refine Ext.trans ?_ (by assumption)) | (refine Ext.trans ?_ (held_left (by assumption))))))))).mono ?_; rintro e w9 ⟨rfl, hb9⟩))
  have HE9 := Hid.mk' (show Ext w4 w9 by (repeat (with_reducible (first | exact Ext.refl _ | assumption | exact held_left (by assumption) | apply Ext.drewN | apply Ext.drew | apply Ext.alloc | (refine Ext.setCell ?_ (by first | (simp; done) | (simp; omega) | omega) _) | (refine Ext.trans ?_ (by assumption)) | (refine Ext.trans ?_ (held_left (by assumption)))))))
  have HSm := Hid.mk' (H5.out.ext (show Ext w5 w9 by (repeat (with_reducible (first | exact Ext.refl _ | assumption | exact held_left (by assumption) | apply Ext.drewN | apply Ext.drew | apply Ext.alloc | (refine Ext.setCell ?_ (by first | (simp; done) | (simp; omega) | omega) _) | (refine Ext.trans ?_ (by assumption)) | (refine Ext.trans ?_ (held_left (by assumption))))))))
  have HSb := Hid.mk' (H3'.out.ext HE9.out)
  have HSa := Hid.mk' (H4.out.ext HE9.out)
  have HEw := Hid.mk' (HE4.out.trans HE9.out)
  clear HMG HAL H3' H4 H5 H6 H7 H8 hb5 hb6 hb7 hb8 hb9 HMI HE4 HE9
  go_wp2
  go_loopw [8] (fun i wr => ∃ k : Nat, k ≤ la.length ∧ i = .int .i64 k ∧ Hid (Ext w9 wr)) (fun i _ => la.length - (intOf i).toNat)
  case atStart => exact ⟨0, Nat.zero_le _, rfl, Hid.mk' (Ext.refl _)⟩
  case round =>
    obtain ⟨k, hk, rfl, hE⟩ := hrel
    by_cases hlt : k < la.length
    · have hlt2 : k < lb.length := by have := HN.out; omega
      have hlt3 : k < (mergeK lb la).length := by rw [HML.out]; exact hlt
      obtain ⟨bb, bo, rfl, hbb, hxb⟩ := HSb.out.at_ (i := k) (by simpa using hlt2)
      obtain ⟨ba, ao, rfl, hba, hxa⟩ := HSa.out.at_ (i := k) (by simpa using hlt)
      obtain ⟨bm, mo, rfl, hbm, hxm⟩ := HSm.out.at_ (i := k) (by simpa using hlt3)
      have HM := Hid.mk' (HMA.out k hlt hlt2)
      have HS : Hid (∀ w', Ext wr w' → Ext wr w' ∧ (∀ j, j < 5 → w'.cell? ⟨bb, bo + k * 5 + j, none⟩ = (lb[k].pc)[j]?) ∧ (∀ j, j < 5 → w'.cell? ⟨ba, ao + k * 5 + j, none⟩ = (la[k].pc)[j]?) ∧ (∀ j, j < 5 → w'.cell? ⟨bm, mo + k * 5 + j, none⟩ = ((mergeK lb la)[k].pc)[j]?)) := Hid.mk' (fun w' h => by
        have hh := (hE.out.trans h).cells.1
        refine ⟨h, fun j hj => ?_, fun j hj => ?_, fun j hj => ?_⟩
        · rw [hh _ _ hbb, hxb j hj, getD_map K.pc lb hlt2]
        · rw [hh _ _ hba, hxa j hj, getD_map K.pc la hlt]
        · rw [hh _ _ hbm, hxm j hj, getD_map K.pc _ hlt3])
      have hbb' : bb < wr.heap.size := Nat.lt_of_lt_of_le hbb hE.out.size
      have hba' : ba < wr.heap.size := Nat.lt_of_lt_of_le hba hE.out.size
      have hbm' : bm < wr.heap.size := Nat.lt_of_lt_of_le hbm hE.out.size
      clear hxb hxa hxm hbb hba hbm HMA
      rw [HM.out] at HS
      clear HM
      obtain ⟨A, hA⟩ : ∃ A, A = la[k] := ⟨_, rfl⟩
      obtain ⟨B, hB⟩ : ∃ B, B = lb[k] := ⟨_, rfl⟩
      rw [← hA, ← hB] at HS
      clear hA hB
      by_cases h1 : A.k = 1
      · rw [if_pos h1] at HS
        have h1' : (A.k != 1) = false := by simpa using h1
        have h1'' : (A.k == 1) = true := by simpa using h1
        have hd1 : decide (A.k = 1) = true := decide_eq_true h1
        clear h1
        by_cases h2 : B.k = 1
        · have h2' : (B.k != 1) = false := by simpa using h2
          have h2'' : (B.k == 1) = true := by simpa using h2
          have hd2 : decide (B.k = 1) = true := decide_eq_true h2
          clear h2
          have HS2 : Hid (∀ w', Ext wr w' → Ext wr w' ∧ w'.cell? ⟨bb, bo + k * 5, none⟩ = some (.int .u8 B.k) ∧ w'.cell? ⟨ba, ao + k * 5, none⟩ = some (.int .u8 A.k) ∧ w'.cell? ⟨ba, ao + k * 5 + 1, none⟩ = some (.int .u8 A.v.ty) ∧ w'.cell? ⟨ba, ao + k * 5 + 2, none⟩ = some (.int .i64 A.v.n) ∧ w'.cell? ⟨ba, ao + k * 5 + 3, none⟩ = some (.complex .f64 A.v.x A.v.y) ∧ w'.cell? ⟨ba, ao + k * 5 + 4, none⟩ = some (.string A.v.s) ∧ w'.cell? ⟨bm, mo + k * 5, none⟩ = some (.int .u8 B.k) ∧ w'.cell? ⟨bm, mo + k * 5 + 1, none⟩ = some (.int .u8 B.v.ty) ∧ w'.cell? ⟨bm, mo + k * 5 + 2, none⟩ = some (.int .i64 B.v.n) ∧ w'.cell? ⟨bm, mo + k * 5 + 3, none⟩ = some (.complex .f64 B.v.x B.v.y) ∧ w'.cell? ⟨bm, mo + k * 5 + 4, none⟩ = some (.string B.v.s)) := Hid.mk' (fun w' h => by
            obtain ⟨s0, s1, s2, s3⟩ := HS.out w' h
            exact ⟨s0, s1 0 (by omega), s2 0 (by omega), s2 1 (by omega), s2 2 (by omega), s2 3 (by omega), s2 4 (by omega), s3 0 (by omega), s3 1 (by omega), s3 2 (by omega), s3 3 (by omega), s3 4 (by omega)⟩)
          clear HS
          go_upto_region 10 with (fail)
          refine wp_region_head 30 (fun w' => Ext wr w' ∧ w'.cell? ⟨bb, bo + k * 5, none⟩ = some (.int .u8 B.k) ∧ w'.cell? ⟨ba, ao + k * 5, none⟩ = some (.int .u8 A.k) ∧ w'.cell? ⟨ba, ao + k * 5 + 1, none⟩ = some (.int .u8 A.v.ty) ∧ w'.cell? ⟨ba, ao + k * 5 + 2, none⟩ = some (.int .i64 A.v.n) ∧ w'.cell? ⟨ba, ao + k * 5 + 3, none⟩ = some (.complex .f64 A.v.x A.v.y) ∧ w'.cell? ⟨ba, ao + k * 5 + 4, none⟩ = some (.string A.v.s) ∧ w'.cell? ⟨bm, mo + k * 5, none⟩ = some (.int .u8 B.k) ∧ w'.cell? ⟨bm, mo + k * 5 + 1, none⟩ = some (.int .u8 B.v.ty) ∧ w'.cell? ⟨bm, mo + k * 5 + 2, none⟩ = some (.int .i64 B.v.n) ∧ w'.cell? ⟨bm, mo + k * 5 + 3, none⟩ = some (.complex .f64 B.v.x B.v.y) ∧ w'.cell? ⟨bm, mo + k * 5 + 4, none⟩ = some (.string B.v.s)) (by kernel_rfl) (by decide) ?_
          have hA0 := Hid.mk' (HS2.out wr.drew (by (repeat (with_reducible (first | exact Ext.refl _ | assumption | exact held_left (by assumption) | apply Ext.drewN | apply Ext.drew | apply Ext.alloc | (refine Ext.setCell ?_ (by first | (simp; done) | (simp; omega) | omega) _) | (refine Ext.trans ?_ (by assumption)) | (refine Ext.trans ?_ (held_left (by assumption))))))))
          (refine wpHd_takeD (i := 0) (d := some 54) (v := ?_) rfl rfl (by kernel_rfl) (by kernel_rfl) (by kernel_rfl) (fun _ _ _ h => h) (Or.inl ⟨by rfl, ?_⟩) hA0.out ?_; rotate_left 1; (· intro w' _; go_simp; try with_reducible rfl))
          try simp only [Act.put, List.setIfInBounds_toArray, List.set_cons_zero, List.set_cons_succ]
          (refine wpHd_takeD (i := 1) (d := some 55) (v := ?_) rfl rfl (by kernel_rfl) (by kernel_rfl) (by kernel_rfl) (fun _ _ _ h => h) (Or.inl ⟨by rfl, ?_⟩) hA0.out ?_; rotate_left 1; (· intro w' _; go_simp; try with_reducible rfl))
          try simp only [Act.put, List.setIfInBounds_toArray, List.set_cons_zero, List.set_cons_succ]
          (refine wpHd_takeD (i := 2) (d := some 56) (v := ?_) rfl rfl (by kernel_rfl) (by kernel_rfl) (by kernel_rfl) (fun _ _ _ h => h) (Or.inl ⟨by rfl, ?_⟩) hA0.out ?_; rotate_left 1; (· intro w' _; go_simp; try with_reducible rfl))
          try simp only [Act.put, List.setIfInBounds_toArray, List.set_cons_zero, List.set_cons_succ]
          (refine wpHd_takeD (i := 3) (d := some 57) (v := ?_) rfl rfl (by kernel_rfl) (by kernel_rfl) (by kernel_rfl) (fun _ _ _ h => h) (Or.inl ⟨by rfl, ?_⟩) hA0.out ?_; rotate_left 1; (· intro w' _; go_simp; try with_reducible rfl))
          try simp only [Act.put, List.setIfInBounds_toArray, List.set_cons_zero, List.set_cons_succ]
          (refine wpHd_takeD (i := 4) (d := some 58) (v := ?_) rfl rfl (by kernel_rfl) (by kernel_rfl) (by kernel_rfl) (fun _ _ _ h => h) (Or.inl ⟨by rfl, ?_⟩) hA0.out ?_; rotate_left 1; (· intro w' hS'; (try dsimp only at hS'); go_split_ands; go_simp; try with_reducible rfl))
          try simp only [Act.put, List.setIfInBounds_toArray, List.set_cons_zero, List.set_cons_succ]
          (refine wpHd_takeD (i := 5) (d := some 59) (v := ?_) rfl rfl (by kernel_rfl) (by kernel_rfl) (by kernel_rfl) (fun _ _ _ h => h) (Or.inl ⟨by rfl, ?_⟩) hA0.out ?_; rotate_left 1; (· intro w' _; go_simp; try with_reducible rfl))
          try simp only [Act.put, List.setIfInBounds_toArray, List.set_cons_zero, List.set_cons_succ]
          (refine wpHd_takeD (i := 6) (d := some 60) (v := ?_) rfl rfl (by kernel_rfl) (by kernel_rfl) (by kernel_rfl) (fun _ _ _ h => h) (Or.inl ⟨by rfl, ?_⟩) hA0.out ?_; rotate_left 1; (· intro w' _; go_simp; try with_reducible rfl))
          try simp only [Act.put, List.setIfInBounds_toArray, List.set_cons_zero, List.set_cons_succ]
          (refine wpHd_takeD (i := 7) (d := some 61) (v := ?_) rfl rfl (by kernel_rfl) (by kernel_rfl) (by kernel_rfl) (fun _ _ _ h => h) (Or.inl ⟨by rfl, ?_⟩) hA0.out ?_; rotate_left 1; (· intro w' _; go_simp; try with_reducible rfl))
          try simp only [Act.put, List.setIfInBounds_toArray, List.set_cons_zero, List.set_cons_succ]
          (refine wpHd_takeD (i := 8) (d := some 62) (v := ?_) rfl rfl (by kernel_rfl) (by kernel_rfl) (by kernel_rfl) (fun _ _ _ h => h) (Or.inl ⟨by rfl, ?_⟩) hA0.out ?_; rotate_left 1; (· intro w' _; go_simp; try with_reducible rfl))
          try simp only [Act.put, List.setIfInBounds_toArray, List.set_cons_zero, List.set_cons_succ]
          (refine wpHd_takeD (i := 9) (d := some 63) (v := ?_) rfl rfl (by kernel_rfl) (by kernel_rfl) (by kernel_rfl) (fun _ _ _ h => h) (Or.inl ⟨by rfl, ?_⟩) hA0.out ?_; rotate_left 1; (· intro w' _; go_simp; try with_reducible rfl))
          try simp only [Act.put, List.setIfInBounds_toArray, List.set_cons_zero, List.set_cons_succ]
          (refine wpHd_takeD (i := 10) (d := some 64) (v := ?_) rfl rfl (by kernel_rfl) (by kernel_rfl) (by kernel_rfl) (fun _ _ _ h => h) (Or.inl ⟨by rfl, ?_⟩) hA0.out ?_; rotate_left 1; (· intro w' _; go_simp; try with_reducible rfl))
          try simp only [Act.put, List.setIfInBounds_toArray, List.set_cons_zero, List.set_cons_succ]
          (refine wpHd_takeD (i := 11) (d := some 65) (v := ?_) rfl rfl (by kernel_rfl) (by kernel_rfl) (by kernel_rfl) (fun _ _ _ h => h) (Or.inl ⟨by rfl, ?_⟩) hA0.out ?_; rotate_left 1; (· intro w' hS'; (try dsimp only at hS'); go_split_ands; go_simp; try with_reducible rfl))
          try simp only [Act.put, List.setIfInBounds_toArray, List.set_cons_zero, List.set_cons_succ]
          (refine wpHd_takeD (i := 12) (d := some 66) (v := ?_) rfl rfl (by kernel_rfl) (by kernel_rfl) (by kernel_rfl) (fun _ _ _ h => h) (Or.inl ⟨by rfl, ?_⟩) hA0.out ?_; rotate_left 1; (· intro w' _; go_simp; try with_reducible rfl))
          try simp only [Act.put, List.setIfInBounds_toArray, List.set_cons_zero, List.set_cons_succ]
          (refine wpHd_takeD (i := 13) (d := some 67) (v := ?_) rfl rfl (by kernel_rfl) (by kernel_rfl) (by kernel_rfl) (fun _ _ _ h => h) (Or.inl ⟨by rfl, ?_⟩) hA0.out ?_; rotate_left 1; (· intro w' _; go_simp; try with_reducible rfl))
          try simp only [Act.put, List.setIfInBounds_toArray, List.set_cons_zero, List.set_cons_succ]
          (refine wpHd_takeD (i := 14) (d := some 68) (v := ?_) rfl rfl (by kernel_rfl) (by kernel_rfl) (by kernel_rfl) (fun _ _ _ h => h) (Or.inl ⟨by rfl, ?_⟩) hA0.out ?_; rotate_left 1; (· intro w' _; go_simp; try with_reducible rfl))
          try simp only [Act.put, List.setIfInBounds_toArray, List.set_cons_zero, List.set_cons_succ]
          (refine wpHd_takeD (i := 15) (d := some 69) (v := ?_) rfl rfl (by kernel_rfl) (by kernel_rfl) (by kernel_rfl) (fun _ _ _ h => h) (Or.inl ⟨by rfl, ?_⟩) hA0.out ?_; rotate_left 1; (· intro w' _; go_simp; try with_reducible rfl))
          try simp only [Act.put, List.setIfInBounds_toArray, List.set_cons_zero, List.set_cons_succ]
          (refine wpHd_takeD (i := 16) (d := some 70) (v := ?_) rfl rfl (by kernel_rfl) (by kernel_rfl) (by kernel_rfl) (fun _ _ _ h => h) (Or.inl ⟨by rfl, ?_⟩) hA0.out ?_; rotate_left 1; (· intro w' _; go_simp; try with_reducible rfl))
          try simp only [Act.put, List.setIfInBounds_toArray, List.set_cons_zero, List.set_cons_succ]
          (refine wpHd_takeD (i := 17) (d := some 71) (v := ?_) rfl rfl (by kernel_rfl) (by kernel_rfl) (by kernel_rfl) (fun _ _ _ h => h) (Or.inl ⟨by rfl, ?_⟩) hA0.out ?_; rotate_left 1; (· intro w' _; go_simp; try with_reducible rfl))
          try simp only [Act.put, List.setIfInBounds_toArray, List.set_cons_zero, List.set_cons_succ]
          (refine wpHd_takeD (i := 18) (d := some 72) (v := ?_) rfl rfl (by kernel_rfl) (by kernel_rfl) (by kernel_rfl) (fun _ _ _ h => h) (Or.inl ⟨by rfl, ?_⟩) hA0.out ?_; rotate_left 1; (· intro w' _; go_simp; try with_reducible rfl))
          try simp only [Act.put, List.setIfInBounds_toArray, List.set_cons_zero, List.set_cons_succ]
          (refine wpHd_takeD (i := 19) (d := some 73) (v := ?_) rfl rfl (by kernel_rfl) (by kernel_rfl) (by kernel_rfl) (fun _ _ _ h => h) (Or.inl ⟨by rfl, ?_⟩) hA0.out ?_; rotate_left 1; (· intro w' hS'; (try dsimp only at hS'); go_split_ands; go_simp; try with_reducible rfl))
          try simp only [Act.put, List.setIfInBounds_toArray, List.set_cons_zero, List.set_cons_succ]
          (refine wpHd_takeD (i := 20) (d := some 74) (v := ?_) rfl rfl (by kernel_rfl) (by kernel_rfl) (by kernel_rfl) (fun _ _ _ h => h) (Or.inl ⟨by rfl, ?_⟩) hA0.out ?_; rotate_left 1; (· intro w' _; go_simp; try with_reducible rfl))
          try simp only [Act.put, List.setIfInBounds_toArray, List.set_cons_zero, List.set_cons_succ]
          (refine wpHd_takeD (i := 21) (d := some 75) (v := ?_) rfl rfl (by kernel_rfl) (by kernel_rfl) (by kernel_rfl) (fun _ _ _ h => h) (Or.inl ⟨by rfl, ?_⟩) hA0.out ?_; rotate_left 1; (· intro w' _; go_simp; try with_reducible rfl))
          try simp only [Act.put, List.setIfInBounds_toArray, List.set_cons_zero, List.set_cons_succ]
          refine wpHd_takeD (i := 22) (d := some 76) (v := undef) rfl rfl (by kernel_rfl) (by kernel_rfl) (by kernel_rfl) (fun _ _ _ h => h) (Or.inr ⟨by rfl, rfl⟩) hA0.out ?_
          try simp only [Act.put, List.setIfInBounds_toArray, List.set_cons_zero, List.set_cons_succ]
          refine wpHd_takeD (i := 23) (d := some 77) (v := undef) rfl rfl (by kernel_rfl) (by kernel_rfl) (by kernel_rfl) (fun _ _ _ h => h) (Or.inr ⟨by rfl, rfl⟩) hA0.out ?_
          try simp only [Act.put, List.setIfInBounds_toArray, List.set_cons_zero, List.set_cons_succ]
          refine wpHd_takeD (i := 24) (d := some 78) (v := undef) rfl rfl (by kernel_rfl) (by kernel_rfl) (by kernel_rfl) (fun _ _ _ h => h) (Or.inr ⟨by rfl, rfl⟩) hA0.out ?_
          try simp only [Act.put, List.setIfInBounds_toArray, List.set_cons_zero, List.set_cons_succ]
          refine wpHd_takeD (i := 25) (d := some 79) (v := undef) rfl rfl (by kernel_rfl) (by kernel_rfl) (by kernel_rfl) (fun _ _ _ h => h) (Or.inr ⟨by rfl, rfl⟩) hA0.out ?_
          try simp only [Act.put, List.setIfInBounds_toArray, List.set_cons_zero, List.set_cons_succ]
          refine wpHd_takeD (i := 26) (d := some 80) (v := undef) rfl rfl (by kernel_rfl) (by kernel_rfl) (by kernel_rfl) (fun _ _ _ h => h) (Or.inr ⟨by rfl, rfl⟩) hA0.out ?_
          try simp only [Act.put, List.setIfInBounds_toArray, List.set_cons_zero, List.set_cons_succ]
          refine wpHd_takeD (i := 27) (d := some 81) (v := undef) rfl rfl (by kernel_rfl) (by kernel_rfl) (by kernel_rfl) (fun _ _ _ h => h) (Or.inr ⟨by rfl, rfl⟩) hA0.out ?_
          try simp only [Act.put, List.setIfInBounds_toArray, List.set_cons_zero, List.set_cons_succ]
          refine wpHd_takeD (i := 28) (d := some 82) (v := undef) rfl rfl (by kernel_rfl) (by kernel_rfl) (by kernel_rfl) (fun _ _ _ h => h) (Or.inr ⟨by rfl, rfl⟩) hA0.out ?_
          try simp only [Act.put, List.setIfInBounds_toArray, List.set_cons_zero, List.set_cons_succ]
          refine wpHd_takeD (i := 29) (d := some 83) (v := undef) rfl rfl (by kernel_rfl) (by kernel_rfl) (by kernel_rfl) (fun _ _ _ h => h) (Or.inr ⟨by rfl, rfl⟩) hA0.out ?_
          try simp only [Act.put, List.setIfInBounds_toArray, List.set_cons_zero, List.set_cons_succ]
          refine wpHd_tail (by kernel_rfl) ?_
          simp only [List.drop_succ_cons, List.drop_zero]
          go_wp2_with (go_at_call 37; refine (calike_any A.k A.v.ty A.v.n A.v.x A.v.y A.v.s A.k A.v.ty A.v.n A.v.x A.v.y A.v.s _).mono ?_; rw [alikeK.2 rfl]; rintro e w10 ⟨rfl, hb10⟩)
          go_roundw
          case rel => exact ⟨k + 1, by omega, by go_num, Hid.mk' (by have hE := hE.out; (repeat (with_reducible (first | exact Ext.refl _ | assumption | exact held_left (by assumption) | apply Ext.drewN | apply Ext.drew | apply Ext.alloc | (refine Ext.setCell ?_ (by first | (simp; done) | (simp; omega) | omega) _) | (refine Ext.trans ?_ (by assumption)) | (refine Ext.trans ?_ (held_left (by assumption)))))))⟩
          case measure => simp [intOf]; omega

        · have h2' : (B.k != 1) = true := by simpa using h2
          have h2'' : (B.k == 1) = false := by simpa using h2
          have hd2 : decide (B.k = 1) = false := decide_eq_false h2
          clear h2
          have HS2 : Hid (∀ w', Ext wr w' → Ext wr w' ∧ w'.cell? ⟨bb, bo + k * 5, none⟩ = some (.int .u8 B.k) ∧ w'.cell? ⟨ba, ao + k * 5, none⟩ = some (.int .u8 A.k) ∧ w'.cell? ⟨ba, ao + k * 5 + 1, none⟩ = some (.int .u8 A.v.ty) ∧ w'.cell? ⟨ba, ao + k * 5 + 2, none⟩ = some (.int .i64 A.v.n) ∧ w'.cell? ⟨ba, ao + k * 5 + 3, none⟩ = some (.complex .f64 A.v.x A.v.y) ∧ w'.cell? ⟨ba, ao + k * 5 + 4, none⟩ = some (.string A.v.s) ∧ w'.cell? ⟨bm, mo + k * 5, none⟩ = some (.int .u8 B.k) ∧ w'.cell? ⟨bm, mo + k * 5 + 1, none⟩ = some (.int .u8 B.v.ty) ∧ w'.cell? ⟨bm, mo + k * 5 + 2, none⟩ = some (.int .i64 B.v.n) ∧ w'.cell? ⟨bm, mo + k * 5 + 3, none⟩ = some (.complex .f64 B.v.x B.v.y) ∧ w'.cell? ⟨bm, mo + k * 5 + 4, none⟩ = some (.string B.v.s)) := Hid.mk' (fun w' h => by
            obtain ⟨s0, s1, s2, s3⟩ := HS.out w' h
            exact ⟨s0, s1 0 (by omega), s2 0 (by omega), s2 1 (by omega), s2 2 (by omega), s2 3 (by omega), s2 4 (by omega), s3 0 (by omega), s3 1 (by omega), s3 2 (by omega), s3 3 (by omega), s3 4 (by omega)⟩)
          clear HS
          go_upto_region 10 with (fail)
          refine wp_region_head 30 (fun w' => Ext wr w' ∧ w'.cell? ⟨bb, bo + k * 5, none⟩ = some (.int .u8 B.k) ∧ w'.cell? ⟨ba, ao + k * 5, none⟩ = some (.int .u8 A.k) ∧ w'.cell? ⟨ba, ao + k * 5 + 1, none⟩ = some (.int .u8 A.v.ty) ∧ w'.cell? ⟨ba, ao + k * 5 + 2, none⟩ = some (.int .i64 A.v.n) ∧ w'.cell? ⟨ba, ao + k * 5 + 3, none⟩ = some (.complex .f64 A.v.x A.v.y) ∧ w'.cell? ⟨ba, ao + k * 5 + 4, none⟩ = some (.string A.v.s) ∧ w'.cell? ⟨bm, mo + k * 5, none⟩ = some (.int .u8 B.k) ∧ w'.cell? ⟨bm, mo + k * 5 + 1, none⟩ = some (.int .u8 B.v.ty) ∧ w'.cell? ⟨bm, mo + k * 5 + 2, none⟩ = some (.int .i64 B.v.n) ∧ w'.cell? ⟨bm, mo + k * 5 + 3, none⟩ = some (.complex .f64 B.v.x B.v.y) ∧ w'.cell? ⟨bm, mo + k * 5 + 4, none⟩ = some (.string B.v.s)) (by kernel_rfl) (by decide) ?_
          have hA0 := Hid.mk' (HS2.out wr.drew (by (repeat (with_reducible (first | exact Ext.refl _ | assumption | exact held_left (by assumption) | apply Ext.drewN | apply Ext.drew | apply Ext.alloc | (refine Ext.setCell ?_ (by first | (simp; done) | (simp; omega) | omega) _) | (refine Ext.trans ?_ (by assumption)) | (refine Ext.trans ?_ (held_left (by assumption))))))))
          (refine wpHd_takeD (i := 0) (d := some 54) (v := ?_) rfl rfl (by kernel_rfl) (by kernel_rfl) (by kernel_rfl) (fun _ _ _ h => h) (Or.inl ⟨by rfl, ?_⟩) hA0.out ?_; rotate_left 1; (· intro w' _; go_simp; try with_reducible rfl))
          try simp only [Act.put, List.setIfInBounds_toArray, List.set_cons_zero, List.set_cons_succ]
          (refine wpHd_takeD (i := 1) (d := some 55) (v := ?_) rfl rfl (by kernel_rfl) (by kernel_rfl) (by kernel_rfl) (fun _ _ _ h => h) (Or.inl ⟨by rfl, ?_⟩) hA0.out ?_; rotate_left 1; (· intro w' _; go_simp; try with_reducible rfl))
          try simp only [Act.put, List.setIfInBounds_toArray, List.set_cons_zero, List.set_cons_succ]
          (refine wpHd_takeD (i := 2) (d := some 56) (v := ?_) rfl rfl (by kernel_rfl) (by kernel_rfl) (by kernel_rfl) (fun _ _ _ h => h) (Or.inl ⟨by rfl, ?_⟩) hA0.out ?_; rotate_left 1; (· intro w' _; go_simp; try with_reducible rfl))
          try simp only [Act.put, List.setIfInBounds_toArray, List.set_cons_zero, List.set_cons_succ]
          (refine wpHd_takeD (i := 3) (d := some 57) (v := ?_) rfl rfl (by kernel_rfl) (by kernel_rfl) (by kernel_rfl) (fun _ _ _ h => h) (Or.inl ⟨by rfl, ?_⟩) hA0.out ?_; rotate_left 1; (· intro w' _; go_simp; try with_reducible rfl))
          try simp only [Act.put, List.setIfInBounds_toArray, List.set_cons_zero, List.set_cons_succ]
          (refine wpHd_takeD (i := 4) (d := some 58) (v := ?_) rfl rfl (by kernel_rfl) (by kernel_rfl) (by kernel_rfl) (fun _ _ _ h => h) (Or.inl ⟨by rfl, ?_⟩) hA0.out ?_; rotate_left 1; (· intro w' hS'; (try dsimp only at hS'); go_split_ands; go_simp; try with_reducible rfl))
          try simp only [Act.put, List.setIfInBounds_toArray, List.set_cons_zero, List.set_cons_succ]
          (refine wpHd_takeD (i := 5) (d := some 59) (v := ?_) rfl rfl (by kernel_rfl) (by kernel_rfl) (by kernel_rfl) (fun _ _ _ h => h) (Or.inl ⟨by rfl, ?_⟩) hA0.out ?_; rotate_left 1; (· intro w' _; go_simp; try with_reducible rfl))
          try simp only [Act.put, List.setIfInBounds_toArray, List.set_cons_zero, List.set_cons_succ]
          (refine wpHd_takeD (i := 6) (d := some 60) (v := ?_) rfl rfl (by kernel_rfl) (by kernel_rfl) (by kernel_rfl) (fun _ _ _ h => h) (Or.inl ⟨by rfl, ?_⟩) hA0.out ?_; rotate_left 1; (· intro w' _; go_simp; try with_reducible rfl))
          try simp only [Act.put, List.setIfInBounds_toArray, List.set_cons_zero, List.set_cons_succ]
          refine wpHd_takeD (i := 7) (d := some 61) (v := undef) rfl rfl (by kernel_rfl) (by kernel_rfl) (by kernel_rfl) (fun _ _ _ h => h) (Or.inr ⟨by rfl, rfl⟩) hA0.out ?_
          try simp only [Act.put, List.setIfInBounds_toArray, List.set_cons_zero, List.set_cons_succ]
          refine wpHd_takeD (i := 8) (d := some 62) (v := undef) rfl rfl (by kernel_rfl) (by kernel_rfl) (by kernel_rfl) (fun _ _ _ h => h) (Or.inr ⟨by rfl, rfl⟩) hA0.out ?_
          try simp only [Act.put, List.setIfInBounds_toArray, List.set_cons_zero, List.set_cons_succ]
          refine wpHd_takeD (i := 9) (d := some 63) (v := undef) rfl rfl (by kernel_rfl) (by kernel_rfl) (by kernel_rfl) (fun _ _ _ h => h) (Or.inr ⟨by rfl, rfl⟩) hA0.out ?_
          try simp only [Act.put, List.setIfInBounds_toArray, List.set_cons_zero, List.set_cons_succ]
          refine wpHd_takeD (i := 10) (d := some 64) (v := undef) rfl rfl (by kernel_rfl) (by kernel_rfl) (by kernel_rfl) (fun _ _ _ h => h) (Or.inr ⟨by rfl, rfl⟩) hA0.out ?_
          try simp only [Act.put, List.setIfInBounds_toArray, List.set_cons_zero, List.set_cons_succ]
          refine wpHd_takeD (i := 11) (d := some 65) (v := undef) rfl rfl (by kernel_rfl) (by kernel_rfl) (by kernel_rfl) (fun _ _ _ h => h) (Or.inr ⟨by rfl, rfl⟩) hA0.out ?_
          try simp only [Act.put, List.setIfInBounds_toArray, List.set_cons_zero, List.set_cons_succ]
          refine wpHd_takeD (i := 12) (d := some 66) (v := undef) rfl rfl (by kernel_rfl) (by kernel_rfl) (by kernel_rfl) (fun _ _ _ h => h) (Or.inr ⟨by rfl, rfl⟩) hA0.out ?_
          try simp only [Act.put, List.setIfInBounds_toArray, List.set_cons_zero, List.set_cons_succ]
          (refine wpHd_takeD (i := 13) (d := some 67) (v := ?_) rfl rfl (by kernel_rfl) (by kernel_rfl) (by kernel_rfl) (fun _ _ _ h => h) (Or.inl ⟨by rfl, ?_⟩) hA0.out ?_; rotate_left 1; (· intro w' _; go_simp; try with_reducible rfl))
          try simp only [Act.put, List.setIfInBounds_toArray, List.set_cons_zero, List.set_cons_succ]
          (refine wpHd_takeD (i := 14) (d := some 68) (v := ?_) rfl rfl (by kernel_rfl) (by kernel_rfl) (by kernel_rfl) (fun _ _ _ h => h) (Or.inl ⟨by rfl, ?_⟩) hA0.out ?_; rotate_left 1; (· intro w' _; go_simp; try with_reducible rfl))
          try simp only [Act.put, List.setIfInBounds_toArray, List.set_cons_zero, List.set_cons_succ]
          (refine wpHd_takeD (i := 15) (d := some 69) (v := ?_) rfl rfl (by kernel_rfl) (by kernel_rfl) (by kernel_rfl) (fun _ _ _ h => h) (Or.inl ⟨by rfl, ?_⟩) hA0.out ?_; rotate_left 1; (· intro w' _; go_simp; try with_reducible rfl))
          try simp only [Act.put, List.setIfInBounds_toArray, List.set_cons_zero, List.set_cons_succ]
          (refine wpHd_takeD (i := 16) (d := some 70) (v := ?_) rfl rfl (by kernel_rfl) (by kernel_rfl) (by kernel_rfl) (fun _ _ _ h => h) (Or.inl ⟨by rfl, ?_⟩) hA0.out ?_; rotate_left 1; (· intro w' _; go_simp; try with_reducible rfl))
          try simp only [Act.put, List.setIfInBounds_toArray, List.set_cons_zero, List.set_cons_succ]
          (refine wpHd_takeD (i := 17) (d := some 71) (v := ?_) rfl rfl (by kernel_rfl) (by kernel_rfl) (by kernel_rfl) (fun _ _ _ h => h) (Or.inl ⟨by rfl, ?_⟩) hA0.out ?_; rotate_left 1; (· intro w' _; go_simp; try with_reducible rfl))
          try simp only [Act.put, List.setIfInBounds_toArray, List.set_cons_zero, List.set_cons_succ]
          (refine wpHd_takeD (i := 18) (d := some 72) (v := ?_) rfl rfl (by kernel_rfl) (by kernel_rfl) (by kernel_rfl) (fun _ _ _ h => h) (Or.inl ⟨by rfl, ?_⟩) hA0.out ?_; rotate_left 1; (· intro w' _; go_simp; try with_reducible rfl))
          try simp only [Act.put, List.setIfInBounds_toArray, List.set_cons_zero, List.set_cons_succ]
          (refine wpHd_takeD (i := 19) (d := some 73) (v := ?_) rfl rfl (by kernel_rfl) (by kernel_rfl) (by kernel_rfl) (fun _ _ _ h => h) (Or.inl ⟨by rfl, ?_⟩) hA0.out ?_; rotate_left 1; (· intro w' hS'; (try dsimp only at hS'); go_split_ands; go_simp; try with_reducible rfl))
          try simp only [Act.put, List.setIfInBounds_toArray, List.set_cons_zero, List.set_cons_succ]
          (refine wpHd_takeD (i := 20) (d := some 74) (v := ?_) rfl rfl (by kernel_rfl) (by kernel_rfl) (by kernel_rfl) (fun _ _ _ h => h) (Or.inl ⟨by rfl, ?_⟩) hA0.out ?_; rotate_left 1; (· intro w' _; go_simp; try with_reducible rfl))
          try simp only [Act.put, List.setIfInBounds_toArray, List.set_cons_zero, List.set_cons_succ]
          (refine wpHd_takeD (i := 21) (d := some 75) (v := ?_) rfl rfl (by kernel_rfl) (by kernel_rfl) (by kernel_rfl) (fun _ _ _ h => h) (Or.inl ⟨by rfl, ?_⟩) hA0.out ?_; rotate_left 1; (· intro w' _; go_simp; try with_reducible rfl))
          try simp only [Act.put, List.setIfInBounds_toArray, List.set_cons_zero, List.set_cons_succ]
          refine wpHd_takeD (i := 22) (d := some 76) (v := undef) rfl rfl (by kernel_rfl) (by kernel_rfl) (by kernel_rfl) (fun _ _ _ h => h) (Or.inr ⟨by rfl, rfl⟩) hA0.out ?_
          try simp only [Act.put, List.setIfInBounds_toArray, List.set_cons_zero, List.set_cons_succ]
          refine wpHd_takeD (i := 23) (d := some 77) (v := undef) rfl rfl (by kernel_rfl) (by kernel_rfl) (by kernel_rfl) (fun _ _ _ h => h) (Or.inr ⟨by rfl, rfl⟩) hA0.out ?_
          try simp only [Act.put, List.setIfInBounds_toArray, List.set_cons_zero, List.set_cons_succ]
          refine wpHd_takeD (i := 24) (d := some 78) (v := undef) rfl rfl (by kernel_rfl) (by kernel_rfl) (by kernel_rfl) (fun _ _ _ h => h) (Or.inr ⟨by rfl, rfl⟩) hA0.out ?_
          try simp only [Act.put, List.setIfInBounds_toArray, List.set_cons_zero, List.set_cons_succ]
          refine wpHd_takeD (i := 25) (d := some 79) (v := undef) rfl rfl (by kernel_rfl) (by kernel_rfl) (by kernel_rfl) (fun _ _ _ h => h) (Or.inr ⟨by rfl, rfl⟩) hA0.out ?_
          try simp only [Act.put, List.setIfInBounds_toArray, List.set_cons_zero, List.set_cons_succ]
          refine wpHd_takeD (i := 26) (d := some 80) (v := undef) rfl rfl (by kernel_rfl) (by kernel_rfl) (by kernel_rfl) (fun _ _ _ h => h) (Or.inr ⟨by rfl, rfl⟩) hA0.out ?_
          try simp only [Act.put, List.setIfInBounds_toArray, List.set_cons_zero, List.set_cons_succ]
          refine wpHd_takeD (i := 27) (d := some 81) (v := undef) rfl rfl (by kernel_rfl) (by kernel_rfl) (by kernel_rfl) (fun _ _ _ h => h) (Or.inr ⟨by rfl, rfl⟩) hA0.out ?_
          try simp only [Act.put, List.setIfInBounds_toArray, List.set_cons_zero, List.set_cons_succ]
          refine wpHd_takeD (i := 28) (d := some 82) (v := undef) rfl rfl (by kernel_rfl) (by kernel_rfl) (by kernel_rfl) (fun _ _ _ h => h) (Or.inr ⟨by rfl, rfl⟩) hA0.out ?_
          try simp only [Act.put, List.setIfInBounds_toArray, List.set_cons_zero, List.set_cons_succ]
          refine wpHd_takeD (i := 29) (d := some 83) (v := undef) rfl rfl (by kernel_rfl) (by kernel_rfl) (by kernel_rfl) (fun _ _ _ h => h) (Or.inr ⟨by rfl, rfl⟩) hA0.out ?_
          try simp only [Act.put, List.setIfInBounds_toArray, List.set_cons_zero, List.set_cons_succ]
          refine wpHd_tail (by kernel_rfl) ?_
          simp only [List.drop_succ_cons, List.drop_zero]
          go_wp2_with (go_at_call 37; refine (calike_any A.k A.v.ty A.v.n A.v.x A.v.y A.v.s A.k A.v.ty A.v.n A.v.x A.v.y A.v.s _).mono ?_; rw [alikeK.2 rfl]; rintro e w10 ⟨rfl, hb10⟩)
          go_roundw
          case rel => exact ⟨k + 1, by omega, by go_num, Hid.mk' (by have hE := hE.out; (repeat (with_reducible (first | exact Ext.refl _ | assumption | exact held_left (by assumption) | apply Ext.drewN | apply Ext.drew | apply Ext.alloc | (refine Ext.setCell ?_ (by first | (simp; done) | (simp; omega) | omega) _) | (refine Ext.trans ?_ (by assumption)) | (refine Ext.trans ?_ (held_left (by assumption)))))))⟩
          case measure => simp [intOf]; omega

      · rw [if_neg h1] at HS
        have h1' : (A.k != 1) = true := by simpa using h1
        have h1'' : (A.k == 1) = false := by simpa using h1
        have hd1 : decide (A.k = 1) = false := decide_eq_false h1
        clear h1
        have HS2 : Hid (∀ w', Ext wr w' → Ext wr w' ∧ w'.cell? ⟨bb, bo + k * 5, none⟩ = some (.int .u8 B.k) ∧ w'.cell? ⟨ba, ao + k * 5, none⟩ = some (.int .u8 A.k) ∧ w'.cell? ⟨ba, ao + k * 5 + 1, none⟩ = some (.int .u8 A.v.ty) ∧ w'.cell? ⟨ba, ao + k * 5 + 2, none⟩ = some (.int .i64 A.v.n) ∧ w'.cell? ⟨ba, ao + k * 5 + 3, none⟩ = some (.complex .f64 A.v.x A.v.y) ∧ w'.cell? ⟨ba, ao + k * 5 + 4, none⟩ = some (.string A.v.s) ∧ w'.cell? ⟨bm, mo + k * 5, none⟩ = some (.int .u8 A.k) ∧ w'.cell? ⟨bm, mo + k * 5 + 1, none⟩ = some (.int .u8 A.v.ty) ∧ w'.cell? ⟨bm, mo + k * 5 + 2, none⟩ = some (.int .i64 A.v.n) ∧ w'.cell? ⟨bm, mo + k * 5 + 3, none⟩ = some (.complex .f64 A.v.x A.v.y) ∧ w'.cell? ⟨bm, mo + k * 5 + 4, none⟩ = some (.string A.v.s)) := Hid.mk' (fun w' h => by
          obtain ⟨s0, s1, s2, s3⟩ := HS.out w' h
          exact ⟨s0, s1 0 (by omega), s2 0 (by omega), s2 1 (by omega), s2 2 (by omega), s2 3 (by omega), s2 4 (by omega), s3 0 (by omega), s3 1 (by omega), s3 2 (by omega), s3 3 (by omega), s3 4 (by omega)⟩)
        clear HS
        go_upto_region 10 with (fail)
        refine wp_region_head 30 (fun w' => Ext wr w' ∧ w'.cell? ⟨bb, bo + k * 5, none⟩ = some (.int .u8 B.k) ∧ w'.cell? ⟨ba, ao + k * 5, none⟩ = some (.int .u8 A.k) ∧ w'.cell? ⟨ba, ao + k * 5 + 1, none⟩ = some (.int .u8 A.v.ty) ∧ w'.cell? ⟨ba, ao + k * 5 + 2, none⟩ = some (.int .i64 A.v.n) ∧ w'.cell? ⟨ba, ao + k * 5 + 3, none⟩ = some (.complex .f64 A.v.x A.v.y) ∧ w'.cell? ⟨ba, ao + k * 5 + 4, none⟩ = some (.string A.v.s) ∧ w'.cell? ⟨bm, mo + k * 5, none⟩ = some (.int .u8 A.k) ∧ w'.cell? ⟨bm, mo + k * 5 + 1, none⟩ = some (.int .u8 A.v.ty) ∧ w'.cell? ⟨bm, mo + k * 5 + 2, none⟩ = some (.int .i64 A.v.n) ∧ w'.cell? ⟨bm, mo + k * 5 + 3, none⟩ = some (.complex .f64 A.v.x A.v.y) ∧ w'.cell? ⟨bm, mo + k * 5 + 4, none⟩ = some (.string A.v.s)) (by kernel_rfl) (by decide) ?_
        have hA0 := Hid.mk' (HS2.out wr.drew (by (repeat (with_reducible (first | exact Ext.refl _ | assumption | exact held_left (by assumption) | apply Ext.drewN | apply Ext.drew | apply Ext.alloc | (refine Ext.setCell ?_ (by first | (simp; done) | (simp; omega) | omega) _) | (refine Ext.trans ?_ (by assumption)) | (refine Ext.trans ?_ (held_left (by assumption))))))))
        (refine wpHd_takeD (i := 0) (d := some 54) (v := ?_) rfl rfl (by kernel_rfl) (by kernel_rfl) (by kernel_rfl) (fun _ _ _ h => h) (Or.inl ⟨by rfl, ?_⟩) hA0.out ?_; rotate_left 1; (· intro w' _; go_simp; try with_reducible rfl))
        try simp only [Act.put, List.setIfInBounds_toArray, List.set_cons_zero, List.set_cons_succ]
        (refine wpHd_takeD (i := 1) (d := some 55) (v := ?_) rfl rfl (by kernel_rfl) (by kernel_rfl) (by kernel_rfl) (fun _ _ _ h => h) (Or.inl ⟨by rfl, ?_⟩) hA0.out ?_; rotate_left 1; (· intro w' _; go_simp; try with_reducible rfl))
        try simp only [Act.put, List.setIfInBounds_toArray, List.set_cons_zero, List.set_cons_succ]
        (refine wpHd_takeD (i := 2) (d := some 56) (v := ?_) rfl rfl (by kernel_rfl) (by kernel_rfl) (by kernel_rfl) (fun _ _ _ h => h) (Or.inl ⟨by rfl, ?_⟩) hA0.out ?_; rotate_left 1; (· intro w' _; go_simp; try with_reducible rfl))
        try simp only [Act.put, List.setIfInBounds_toArray, List.set_cons_zero, List.set_cons_succ]
        (refine wpHd_takeD (i := 3) (d := some 57) (v := ?_) rfl rfl (by kernel_rfl) (by kernel_rfl) (by kernel_rfl) (fun _ _ _ h => h) (Or.inl ⟨by rfl, ?_⟩) hA0.out ?_; rotate_left 1; (· intro w' _; go_simp; try with_reducible rfl))
        try simp only [Act.put, List.setIfInBounds_toArray, List.set_cons_zero, List.set_cons_succ]
        (refine wpHd_takeD (i := 4) (d := some 58) (v := ?_) rfl rfl (by kernel_rfl) (by kernel_rfl) (by kernel_rfl) (fun _ _ _ h => h) (Or.inl ⟨by rfl, ?_⟩) hA0.out ?_; rotate_left 1; (· intro w' hS'; (try dsimp only at hS'); go_split_ands; go_simp; try with_reducible rfl))
        try simp only [Act.put, List.setIfInBounds_toArray, List.set_cons_zero, List.set_cons_succ]
        (refine wpHd_takeD (i := 5) (d := some 59) (v := ?_) rfl rfl (by kernel_rfl) (by kernel_rfl) (by kernel_rfl) (fun _ _ _ h => h) (Or.inl ⟨by rfl, ?_⟩) hA0.out ?_; rotate_left 1; (· intro w' _; go_simp; try with_reducible rfl))
        try simp only [Act.put, List.setIfInBounds_toArray, List.set_cons_zero, List.set_cons_succ]
        (refine wpHd_takeD (i := 6) (d := some 60) (v := ?_) rfl rfl (by kernel_rfl) (by kernel_rfl) (by kernel_rfl) (fun _ _ _ h => h) (Or.inl ⟨by rfl, ?_⟩) hA0.out ?_; rotate_left 1; (· intro w' _; go_simp; try with_reducible rfl))
        try simp only [Act.put, List.setIfInBounds_toArray, List.set_cons_zero, List.set_cons_succ]
        refine wpHd_takeD (i := 7) (d := some 61) (v := undef) rfl rfl (by kernel_rfl) (by kernel_rfl) (by kernel_rfl) (fun _ _ _ h => h) (Or.inr ⟨by rfl, rfl⟩) hA0.out ?_
        try simp only [Act.put, List.setIfInBounds_toArray, List.set_cons_zero, List.set_cons_succ]
        refine wpHd_takeD (i := 8) (d := some 62) (v := undef) rfl rfl (by kernel_rfl) (by kernel_rfl) (by kernel_rfl) (fun _ _ _ h => h) (Or.inr ⟨by rfl, rfl⟩) hA0.out ?_
        try simp only [Act.put, List.setIfInBounds_toArray, List.set_cons_zero, List.set_cons_succ]
        refine wpHd_takeD (i := 9) (d := some 63) (v := undef) rfl rfl (by kernel_rfl) (by kernel_rfl) (by kernel_rfl) (fun _ _ _ h => h) (Or.inr ⟨by rfl, rfl⟩) hA0.out ?_
        try simp only [Act.put, List.setIfInBounds_toArray, List.set_cons_zero, List.set_cons_succ]
        refine wpHd_takeD (i := 10) (d := some 64) (v := undef) rfl rfl (by kernel_rfl) (by kernel_rfl) (by kernel_rfl) (fun _ _ _ h => h) (Or.inr ⟨by rfl, rfl⟩) hA0.out ?_
        try simp only [Act.put, List.setIfInBounds_toArray, List.set_cons_zero, List.set_cons_succ]
        refine wpHd_takeD (i := 11) (d := some 65) (v := undef) rfl rfl (by kernel_rfl) (by kernel_rfl) (by kernel_rfl) (fun _ _ _ h => h) (Or.inr ⟨by rfl, rfl⟩) hA0.out ?_
        try simp only [Act.put, List.setIfInBounds_toArray, List.set_cons_zero, List.set_cons_succ]
        refine wpHd_takeD (i := 12) (d := some 66) (v := undef) rfl rfl (by kernel_rfl) (by kernel_rfl) (by kernel_rfl) (fun _ _ _ h => h) (Or.inr ⟨by rfl, rfl⟩) hA0.out ?_
        try simp only [Act.put, List.setIfInBounds_toArray, List.set_cons_zero, List.set_cons_succ]
        (refine wpHd_takeD (i := 13) (d := some 67) (v := ?_) rfl rfl (by kernel_rfl) (by kernel_rfl) (by kernel_rfl) (fun _ _ _ h => h) (Or.inl ⟨by rfl, ?_⟩) hA0.out ?_; rotate_left 1; (· intro w' _; go_simp; try with_reducible rfl))
        try simp only [Act.put, List.setIfInBounds_toArray, List.set_cons_zero, List.set_cons_succ]
        (refine wpHd_takeD (i := 14) (d := some 68) (v := ?_) rfl rfl (by kernel_rfl) (by kernel_rfl) (by kernel_rfl) (fun _ _ _ h => h) (Or.inl ⟨by rfl, ?_⟩) hA0.out ?_; rotate_left 1; (· intro w' _; go_simp; try with_reducible rfl))
        try simp only [Act.put, List.setIfInBounds_toArray, List.set_cons_zero, List.set_cons_succ]
        (refine wpHd_takeD (i := 15) (d := some 69) (v := ?_) rfl rfl (by kernel_rfl) (by kernel_rfl) (by kernel_rfl) (fun _ _ _ h => h) (Or.inl ⟨by rfl, ?_⟩) hA0.out ?_; rotate_left 1; (· intro w' _; go_simp; try with_reducible rfl))
        try simp only [Act.put, List.setIfInBounds_toArray, List.set_cons_zero, List.set_cons_succ]
        (refine wpHd_takeD (i := 16) (d := some 70) (v := ?_) rfl rfl (by kernel_rfl) (by kernel_rfl) (by kernel_rfl) (fun _ _ _ h => h) (Or.inl ⟨by rfl, ?_⟩) hA0.out ?_; rotate_left 1; (· intro w' _; go_simp; try with_reducible rfl))
        try simp only [Act.put, List.setIfInBounds_toArray, List.set_cons_zero, List.set_cons_succ]
        (refine wpHd_takeD (i := 17) (d := some 71) (v := ?_) rfl rfl (by kernel_rfl) (by kernel_rfl) (by kernel_rfl) (fun _ _ _ h => h) (Or.inl ⟨by rfl, ?_⟩) hA0.out ?_; rotate_left 1; (· intro w' _; go_simp; try with_reducible rfl))
        try simp only [Act.put, List.setIfInBounds_toArray, List.set_cons_zero, List.set_cons_succ]
        (refine wpHd_takeD (i := 18) (d := some 72) (v := ?_) rfl rfl (by kernel_rfl) (by kernel_rfl) (by kernel_rfl) (fun _ _ _ h => h) (Or.inl ⟨by rfl, ?_⟩) hA0.out ?_; rotate_left 1; (· intro w' _; go_simp; try with_reducible rfl))
        try simp only [Act.put, List.setIfInBounds_toArray, List.set_cons_zero, List.set_cons_succ]
        (refine wpHd_takeD (i := 19) (d := some 73) (v := ?_) rfl rfl (by kernel_rfl) (by kernel_rfl) (by kernel_rfl) (fun _ _ _ h => h) (Or.inl ⟨by rfl, ?_⟩) hA0.out ?_; rotate_left 1; (· intro w' hS'; (try dsimp only at hS'); go_split_ands; go_simp; try with_reducible rfl))
        try simp only [Act.put, List.setIfInBounds_toArray, List.set_cons_zero, List.set_cons_succ]
        (refine wpHd_takeD (i := 20) (d := some 74) (v := ?_) rfl rfl (by kernel_rfl) (by kernel_rfl) (by kernel_rfl) (fun _ _ _ h => h) (Or.inl ⟨by rfl, ?_⟩) hA0.out ?_; rotate_left 1; (· intro w' _; go_simp; try with_reducible rfl))
        try simp only [Act.put, List.setIfInBounds_toArray, List.set_cons_zero, List.set_cons_succ]
        (refine wpHd_takeD (i := 21) (d := some 75) (v := ?_) rfl rfl (by kernel_rfl) (by kernel_rfl) (by kernel_rfl) (fun _ _ _ h => h) (Or.inl ⟨by rfl, ?_⟩) hA0.out ?_; rotate_left 1; (· intro w' _; go_simp; try with_reducible rfl))
        try simp only [Act.put, List.setIfInBounds_toArray, List.set_cons_zero, List.set_cons_succ]
        (refine wpHd_takeD (i := 22) (d := some 76) (v := ?_) rfl rfl (by kernel_rfl) (by kernel_rfl) (by kernel_rfl) (fun _ _ _ h => h) (Or.inl ⟨by rfl, ?_⟩) hA0.out ?_; rotate_left 1; (· intro w' _; go_simp; try with_reducible rfl))
        try simp only [Act.put, List.setIfInBounds_toArray, List.set_cons_zero, List.set_cons_succ]
        (refine wpHd_takeD (i := 23) (d := some 77) (v := ?_) rfl rfl (by kernel_rfl) (by kernel_rfl) (by kernel_rfl) (fun _ _ _ h => h) (Or.inl ⟨by rfl, ?_⟩) hA0.out ?_; rotate_left 1; (· intro w' _; go_simp; try with_reducible rfl))
        try simp only [Act.put, List.setIfInBounds_toArray, List.set_cons_zero, List.set_cons_succ]
        (refine wpHd_takeD (i := 24) (d := some 78) (v := ?_) rfl rfl (by kernel_rfl) (by kernel_rfl) (by kernel_rfl) (fun _ _ _ h => h) (Or.inl ⟨by rfl, ?_⟩) hA0.out ?_; rotate_left 1; (· intro w' _; go_simp; try with_reducible rfl))
        try simp only [Act.put, List.setIfInBounds_toArray, List.set_cons_zero, List.set_cons_succ]
        (refine wpHd_takeD (i := 25) (d := some 79) (v := ?_) rfl rfl (by kernel_rfl) (by kernel_rfl) (by kernel_rfl) (fun _ _ _ h => h) (Or.inl ⟨by rfl, ?_⟩) hA0.out ?_; rotate_left 1; (· intro w' hS'; (try dsimp only at hS'); go_split_ands; go_simp; try with_reducible rfl))
        try simp only [Act.put, List.setIfInBounds_toArray, List.set_cons_zero, List.set_cons_succ]
        (refine wpHd_takeD (i := 26) (d := some 80) (v := ?_) rfl rfl (by kernel_rfl) (by kernel_rfl) (by kernel_rfl) (fun _ _ _ h => h) (Or.inl ⟨by rfl, ?_⟩) hA0.out ?_; rotate_left 1; (· intro w' _; go_simp; try with_reducible rfl))
        try simp only [Act.put, List.setIfInBounds_toArray, List.set_cons_zero, List.set_cons_succ]
        (refine wpHd_takeD (i := 27) (d := some 81) (v := ?_) rfl rfl (by kernel_rfl) (by kernel_rfl) (by kernel_rfl) (fun _ _ _ h => h) (Or.inl ⟨by rfl, ?_⟩) hA0.out ?_; rotate_left 1; (· intro w' _; go_simp; try with_reducible rfl))
        try simp only [Act.put, List.setIfInBounds_toArray, List.set_cons_zero, List.set_cons_succ]
        (refine wpHd_takeD (i := 28) (d := some 82) (v := ?_) rfl rfl (by kernel_rfl) (by kernel_rfl) (by kernel_rfl) (fun _ _ _ h => h) (Or.inl ⟨by rfl, ?_⟩) hA0.out ?_; rotate_left 1; (· intro w' _; go_simp; try with_reducible rfl))
        try simp only [Act.put, List.setIfInBounds_toArray, List.set_cons_zero, List.set_cons_succ]
        (refine wpHd_takeD (i := 29) (d := some 83) (v := ?_) rfl rfl (by kernel_rfl) (by kernel_rfl) (by kernel_rfl) (fun _ _ _ h => h) (Or.inl ⟨by rfl, ?_⟩) hA0.out ?_; rotate_left 1; (· intro w' hS'; (try dsimp only at hS'); go_split_ands; go_simp; try with_reducible rfl))
        try simp only [Act.put, List.setIfInBounds_toArray, List.set_cons_zero, List.set_cons_succ]
        refine wpHd_tail (by kernel_rfl) ?_
        simp only [List.drop_succ_cons, List.drop_zero]
        go_wp2_with (go_at_call 37; refine (calike_any A.k A.v.ty A.v.n A.v.x A.v.y A.v.s A.k A.v.ty A.v.n A.v.x A.v.y A.v.s _).mono ?_; rw [alikeK.2 rfl]; rintro e w10 ⟨rfl, hb10⟩)
        go_roundw
        case rel => exact ⟨k + 1, by omega, by go_num, Hid.mk' (by have hE := hE.out; (repeat (with_reducible (first | exact Ext.refl _ | assumption | exact held_left (by assumption) | apply Ext.drewN | apply Ext.drew | apply Ext.alloc | (refine Ext.setCell ?_ (by first | (simp; done) | (simp; omega) | omega) _) | (refine Ext.trans ?_ (by assumption)) | (refine Ext.trans ?_ (held_left (by assumption)))))))⟩
        case measure => simp [intOf]; omega
    · have hkk : k = la.length := by omega
      subst hkk
      go_wp2_with (go_at_call 31; refine (awake12_any _).mono ?_; rintro e w10 ⟨rfl, hb10⟩)
      go_ret
      exact ⟨rfl, HEw.out.trans (hE.out.trans hb10)⟩

end Go.Proofs.Ytdbepkfblfhlhaa
