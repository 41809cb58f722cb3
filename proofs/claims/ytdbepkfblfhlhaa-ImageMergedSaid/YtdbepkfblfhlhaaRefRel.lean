/-
What is wrong with a relation, the reference's answer.
-/
import Derived.Test.YtdbepkfblfhlhaaRelR
namespace Go.Proofs.Ytdbepkfblfhlhaa
open Go.RowKit

theorem take_any_no {cols : List Col} {c : Col} {k : Nat} (h : ∀ i (hi : i < cols.length), i < k → cols[i].nm ≠ c.nm) : (cols.take k).any (fun o => decide (o.nm = c.nm)) = false := by
  refine any_none fun i hi => ?_
  rw [List.length_take] at hi
  rw [List.getElem_take]
  exact decide_eq_false (h i (by omega) (by omega))
theorem take_any_yes {cols : List Col} {c : Col} {k j : Nat} (hj : j < cols.length) (hk : j < k) (h : cols[j].nm = c.nm) : (cols.take k).any (fun o => decide (o.nm = c.nm)) = true := by
  have hl : j < (cols.take k).length := by rw [List.length_take]; omega
  refine any_at (k := j) hl ?_
  rw [List.getElem_take]
  exact decide_eq_true h
theorem take_key {cols : List Col} {k : Nat} (hk : k < cols.length) : (cols.take (k + 1)).any Col.key = ((cols.take k).any Col.key || cols[k].key) := by
  rw [List.take_succ_eq_append_getElem hk, List.any_append]; simp
theorem colE_un {c : Col} {l : List Col} (h : namedB c.nm = false) : colE c l = 3 := by unfold colE; rw [if_pos h]
theorem colE_ex {c : Col} {l : List Col} (h : namedB c.nm = true) (h2 : l.any (fun o => decide (o.nm = c.nm)) = true) : colE c l = 9 := by unfold colE; rw [if_neg (by rw [h]; simp), if_pos h2]
theorem colE_ty {c : Col} {l : List Col} (h : namedB c.nm = true) (h2 : l.any (fun o => decide (o.nm = c.nm)) = false) (h3 : c.ty < 1 ∨ 6 < c.ty) : colE c l = 11 := by unfold colE; rw [if_neg (by rw [h]; simp), if_neg (by rw [h2]; simp), if_pos h3]
theorem colE_ok {c : Col} {l : List Col} (h : namedB c.nm = true) (h2 : l.any (fun o => decide (o.nm = c.nm)) = false) (h3 : ¬ (c.ty < 1 ∨ 6 < c.ty)) : colE c l = 0 := by unfold colE; rw [if_neg (by rw [h]; simp), if_neg (by rw [h2]; simp), if_neg h3]

set_option maxRecDepth 100000 in set_option maxHeartbeats 4000000 in
theorem rright8_any (oid ver : Int) (nm : ByteArray) (id : Int) (cols : List Col) (a : Option Addr) (cap : Nat) (w : World) (hl : Sl w (.slice a cols.length cap) 3 (cols.map Col.cells)) (hlen : cols.length ≤ 1000)
    (hnm : nm.size ≤ 9223372036854775807) (hcs : ∀ c ∈ cols, c.nm.size ≤ 9223372036854775807) :
    Calls Try.prog 59 #[.agg #[.int .u32 oid, .int .u32 ver, .string nm, .int .u8 id, .slice a cols.length cap]] w fun e w' => e = .returned (.int .i64 (⟨oid, ver, nm, id, cols⟩ : Rl).right) ∧ Ext w w' := by
  have HN := Hid.mk' (fun w => rnamed_any nm w hnm)
  have HL := Hid.mk' hl
  have HCS := Hid.mk' hcs
  clear hl hcs
  by_cases h1 : oid = 0
  · have HR := Hid.mk' (show (⟨oid, ver, nm, id, cols⟩ : Rl).right = 4 by unfold Rl.right; rw [if_pos (.inl h1)])
    have e1 : (oid == 0) = true := by simpa using h1
    clear h1
    go_enter Try.func59, Try.ntmps59
    go_wp2
    go_ret
    exact ⟨ret_int HR.out.symm, by (repeat (with_reducible (first | exact Ext.refl _ | assumption | exact held_left (by assumption) | apply Ext.drewN | apply Ext.drew | apply Ext.alloc | (refine Ext.setCell ?_ (by first | (simp; done) | (simp; omega) | omega) _) | (refine Ext.trans ?_ (by assumption)) | (refine Ext.trans ?_ (held_left (by assumption))))))⟩
  have e1 : (oid == 0) = false := by simpa using h1
  by_cases h2 : ver = 0
  · have HR := Hid.mk' (show (⟨oid, ver, nm, id, cols⟩ : Rl).right = 4 by unfold Rl.right; rw [if_pos (.inr h2)])
    have e2 : (ver == 0) = true := by simpa using h2
    clear h2 h1
    go_enter Try.func59, Try.ntmps59
    go_wp2
    go_ret
    exact ⟨ret_int HR.out.symm, by (repeat (with_reducible (first | exact Ext.refl _ | assumption | exact held_left (by assumption) | apply Ext.drewN | apply Ext.drew | apply Ext.alloc | (refine Ext.setCell ?_ (by first | (simp; done) | (simp; omega) | omega) _) | (refine Ext.trans ?_ (by assumption)) | (refine Ext.trans ?_ (held_left (by assumption))))))⟩
  have e2 : (ver == 0) = false := by simpa using h2
  cases h3 : namedB nm with
  | false =>
    have HR := Hid.mk' (show (⟨oid, ver, nm, id, cols⟩ : Rl).right = 3 by unfold Rl.right; rw [if_neg (by simp only; omega), if_pos h3])
    rw [h3] at HN
    clear h3 h2 h1
    go_enter Try.func59, Try.ntmps59
    go_wp2_with (go_at_call 99; refine (HN.out _).mono ?_; rintro e w1 ⟨rfl, rfl⟩)
    go_ret
    exact ⟨ret_int HR.out.symm, by (repeat (with_reducible (first | exact Ext.refl _ | assumption | exact held_left (by assumption) | apply Ext.drewN | apply Ext.drew | apply Ext.alloc | (refine Ext.setCell ?_ (by first | (simp; done) | (simp; omega) | omega) _) | (refine Ext.trans ?_ (by assumption)) | (refine Ext.trans ?_ (held_left (by assumption))))))⟩
  | true =>
  by_cases h4 : 2 < id
  · have HR := Hid.mk' (show (⟨oid, ver, nm, id, cols⟩ : Rl).right = 7 by unfold Rl.right; rw [if_neg (by simp only; omega), if_neg (by simp only [h3]; simp), if_pos h4])
    rw [h3] at HN
    clear h3 h2 h1
    go_enter Try.func59, Try.ntmps59
    go_wp2_with (go_at_call 99; refine (HN.out _).mono ?_; rintro e w1 ⟨rfl, rfl⟩)
    go_ret
    exact ⟨ret_int HR.out.symm, by (repeat (with_reducible (first | exact Ext.refl _ | assumption | exact held_left (by assumption) | apply Ext.drewN | apply Ext.drew | apply Ext.alloc | (refine Ext.setCell ?_ (by first | (simp; done) | (simp; omega) | omega) _) | (refine Ext.trans ?_ (by assumption)) | (refine Ext.trans ?_ (held_left (by assumption))))))⟩
  by_cases h5 : cols.length < 1
  · have HR := Hid.mk' (show (⟨oid, ver, nm, id, cols⟩ : Rl).right = 17 by unfold Rl.right; rw [if_neg (by simp only; omega), if_neg (by simp only [h3]; simp), if_neg (by simp only; omega), if_pos (.inl h5)])
    have h4' : id ≤ 2 := by omega
    have hz : (((cols.length : Nat) : Int) == 0) = true := by simp; exact List.length_eq_zero_iff.1 (by omega)
    rw [h3] at HN
    clear h3 h2 h1
    go_enter Try.func59, Try.ntmps59
    go_wp2_with (go_at_call 99; refine (HN.out _).mono ?_; rintro e w1 ⟨rfl, rfl⟩)
    go_ret
    exact ⟨ret_int HR.out.symm, by (repeat (with_reducible (first | exact Ext.refl _ | assumption | exact held_left (by assumption) | apply Ext.drewN | apply Ext.drew | apply Ext.alloc | (refine Ext.setCell ?_ (by first | (simp; done) | (simp; omega) | omega) _) | (refine Ext.trans ?_ (by assumption)) | (refine Ext.trans ?_ (held_left (by assumption))))))⟩
  have hz : (((cols.length : Nat) : Int) == 0) = false := by
    simp; rintro rfl; simp at h5
  by_cases h6 : 16 < cols.length
  · have HR := Hid.mk' (show (⟨oid, ver, nm, id, cols⟩ : Rl).right = 17 by unfold Rl.right; rw [if_neg (by simp only; omega), if_neg (by simp only [h3]; simp), if_neg (by simp only; omega), if_pos (.inr h6)])
    have h4' : id ≤ 2 := by omega
    rw [h3] at HN
    clear h3 h2 h1
    go_enter Try.func59, Try.ntmps59
    go_wp2_with (go_at_call 99; refine (HN.out _).mono ?_; rintro e w1 ⟨rfl, rfl⟩)
    go_ret
    exact ⟨ret_int HR.out.symm, by (repeat (with_reducible (first | exact Ext.refl _ | assumption | exact held_left (by assumption) | apply Ext.drewN | apply Ext.drew | apply Ext.alloc | (refine Ext.setCell ?_ (by first | (simp; done) | (simp; omega) | omega) _) | (refine Ext.trans ?_ (by assumption)) | (refine Ext.trans ?_ (held_left (by assumption))))))⟩
  have HR := Hid.mk' (Rl.right_cols (r := (⟨oid, ver, nm, id, cols⟩ : Rl)) h1 h2 h3 (by simp only; omega) (by simp only; omega) (by simp only; omega))
  simp only at HR
  rw [h3] at HN
  have h4' : id ≤ 2 := by omega
  have h6' : cols.length ≤ 16 := by omega
  clear h3 h2 h1 h4 h5 h6
  go_enter Try.func59, Try.ntmps59
  go_wp2_with (go_at_call 99; refine (HN.out _).mono ?_; rintro e w1 ⟨rfl, rfl⟩)
  go_loopw [3, 4] (fun q i wr => ∃ k : Nat, k ≤ cols.length ∧ i = .int .i64 k ∧ (∃ B : Bool, q = .bool B ∧ Hid ((cols.take k).any Col.key = B)) ∧ Hid (∀ j, j < k → colAt cols j = 0) ∧ Hid (Ext (w.alloc (.cells #[.int .u32 oid, .int .u32 ver, .string nm, .int .u8 id, .slice a cols.length cap] 27)) wr)) (fun _ i _ => cols.length - (intOf i).toNat)
  case atStart => exact ⟨0, Nat.zero_le _, rfl, ⟨false, rfl, by show List.any _ _ = _; simp⟩, fun j h => by omega, Ext.refl _⟩
  case round =>
    obtain ⟨k, hk, rfl, ⟨B, rfl, hKB⟩, hrel, hE⟩ := hrel
    have HRL := hrel
    have hBx := (Blk.new w #[.int .u32 oid, .int .u32 ver, .string nm, .int .u8 id, .slice a cols.length cap] 27).ext hE.out
    have g0 := hBx.cell
    have z0 := hBx.lt
    have HBx := Hid.mk' hBx
    clear hBx
    by_cases hlt : k < cols.length
    · obtain ⟨b, o, rfl, hb, hx⟩ := HL.out.at_ (i := k) (by simpa using hlt)
      have hEw : Hid (Ext w wr) := Hid.mk' (((Ext.refl w).alloc _).trans hE.out)
      obtain ⟨f0, f1, f2⟩ := Col.at_ hlt hx hb hEw.out
      have hbw : b < wr.heap.size := Nat.lt_of_lt_of_le hb hEw.out.size
      have hAt := colAt_lt hlt
      have HNC := Hid.mk' (fun w => rnamed_any cols[k].nm w (HCS.out _ (List.getElem_mem hlt)))
      have HTK := Hid.mk' (take_key hlt)
      obtain ⟨c, hc⟩ : ∃ c, c = cols[k] := ⟨_, rfl⟩
      rw [← hc] at f0 f1 f2 hAt HNC HTK
      have HAt := Hid.mk' hAt
      have HC := Hid.mk' hc
      clear hx hAt hc
      cases hnc : namedB c.nm with
      | false =>
        rw [hnc] at HNC
        have HR2 := Hid.mk' (show (⟨oid, ver, nm, id, cols⟩ : Rl).right = 3 by rw [HR.out, firstE_at hrel.out hlt (by rw [HAt.out, colE_un hnc]; decide), HAt.out, colE_un hnc]; simp)
        clear hnc
        go_wp2_with (go_at_call 99; refine (HNC.out _).mono ?_; rintro e w1 ⟨rfl, rfl⟩)
        go_ret
        exact ⟨ret_int HR2.out.symm, hEw.out.trans (by (repeat (with_reducible (first | exact Ext.refl _ | assumption | exact held_left (by assumption) | apply Ext.drewN | apply Ext.drew | apply Ext.alloc | (refine Ext.setCell ?_ (by first | (simp; done) | (simp; omega) | omega) _) | (refine Ext.trans ?_ (by assumption)) | (refine Ext.trans ?_ (held_left (by assumption)))))))⟩
      | true =>
        rw [hnc] at HNC
        have HNM := Hid.mk' hnc
        clear hnc
        go_wp2_with (go_at_call 99; refine (HNC.out _).mono ?_; rintro e w1 ⟨rfl, rfl⟩)
        obtain ⟨wo, rfl⟩ : ∃ wo : World, wo = wr := ⟨_, rfl⟩
        go_loopw [6] (fun m wr => ∃ j : Nat, j ≤ k ∧ m = .int .i64 j ∧ Hid (∀ i (hi : i < cols.length), i < j → cols[i].nm ≠ c.nm) ∧ Hid (Ext (wo.alloc (.cells #[.string c.nm, .int .u8 c.ty, .bool c.key] 123)) wr)) (fun m _ => k - (intOf m).toNat)
        case atStart => exact ⟨0, Nat.zero_le _, rfl, fun i _ h => by omega, Ext.refl _⟩
        case round =>
          obtain ⟨j, hj, rfl, hno, hEi⟩ := hrel
          have hEri : Hid (Ext wo wr) := Hid.mk' (((Ext.refl wo).alloc _).trans hEi.out)
          have hBi := HBx.out.ext hEri.out
          have gi := hBi.cell
          have zi := hBi.lt
          have hCi := (Blk.new wo #[.string c.nm, .int .u8 c.ty, .bool c.key] 123).ext hEi.out
          have ci := hCi.cell
          have yi := hCi.lt
          clear hBi hCi
          by_cases hjk : j < k
          · have hjl : j < cols.length := by omega
            obtain ⟨b2, o2, e2, hb2, hx2⟩ := HL.out.at_ (i := j) (by simpa using hjl)
            obtain ⟨rfl, rfl⟩ : b2 = b ∧ o2 = o := by simp at e2; exact ⟨e2.1.symm, e2.2.symm⟩
            obtain ⟨p0, p1, p2⟩ := Col.at_ hjl hx2 hb2 (hEw.out.trans hEri.out)
            have hbi : b2 < wr.heap.size := Nat.lt_of_lt_of_le hbw hEri.out.size
            clear e2 hx2
            by_cases hnn : cols[j].nm = c.nm
            · have hEq : (cols[j].nm.toList == c.nm.toList) = true := by rw [str_beq]; exact decide_eq_true hnn
              have hAl := take_any_yes hjl hjk hnn
              have HR2 := Hid.mk' (show (⟨oid, ver, nm, id, cols⟩ : Rl).right = 9 by rw [HR.out, firstE_at HRL.out hlt (by rw [HAt.out, colE_ex HNM.out hAl]; decide), HAt.out, colE_ex HNM.out hAl]; simp)
              clear hnn hAl
              go_wp2
              go_region_held3 (fun w' => Ext (wr) w' ∧ (∀ b o, b < (wr).heap.size → w'.cell? ⟨b, o, none⟩ = (wr).cell? ⟨b, o, none⟩) ∧ (∀ b o, b < (wr).heap.size → w'.frozen? ⟨b, o, none⟩ = (wr).frozen? ⟨b, o, none⟩)) ((exact held_of (by (repeat (with_reducible (first | exact Ext.refl _ | assumption | exact held_left (by assumption) | apply Ext.drewN | apply Ext.drew | apply Ext.alloc | (refine Ext.setCell ?_ (by first | (simp; done) | (simp; omega) | omega) _) | (refine Ext.trans ?_ (by assumption)) | (refine Ext.trans ?_ (held_left (by assumption))))))))) (fail)
              go_wp2
              go_ret
              exact ⟨ret_int HR2.out.symm, (hEw.out.trans hEri.out).trans (by (repeat (with_reducible (first | exact Ext.refl _ | assumption | exact held_left (by assumption) | apply Ext.drewN | apply Ext.drew | apply Ext.alloc | (refine Ext.setCell ?_ (by first | (simp; done) | (simp; omega) | omega) _) | (refine Ext.trans ?_ (by assumption)) | (refine Ext.trans ?_ (held_left (by assumption)))))))⟩
            · have hEq : (cols[j].nm.toList == c.nm.toList) = false := by rw [str_beq]; exact decide_eq_false hnn
              have HNN := Hid.mk' hnn
              clear hnn
              go_wp2
              go_region_held3 (fun w' => Ext (wr) w' ∧ (∀ b o, b < (wr).heap.size → w'.cell? ⟨b, o, none⟩ = (wr).cell? ⟨b, o, none⟩) ∧ (∀ b o, b < (wr).heap.size → w'.frozen? ⟨b, o, none⟩ = (wr).frozen? ⟨b, o, none⟩)) ((exact held_of (by (repeat (with_reducible (first | exact Ext.refl _ | assumption | exact held_left (by assumption) | apply Ext.drewN | apply Ext.drew | apply Ext.alloc | (refine Ext.setCell ?_ (by first | (simp; done) | (simp; omega) | omega) _) | (refine Ext.trans ?_ (by assumption)) | (refine Ext.trans ?_ (held_left (by assumption))))))))) (fail)
              go_wp2
              go_roundw
              case rel => exact ⟨j + 1, by omega, by go_num, fun i hi hij => by
                by_cases e : i = j
                · subst e; exact HNN.out
                · exact hno.out i hi (by omega), Hid.mk' (hEi.out.trans (by (repeat (with_reducible (first | exact Ext.refl _ | assumption | exact held_left (by assumption) | apply Ext.drewN | apply Ext.drew | apply Ext.alloc | (refine Ext.setCell ?_ (by first | (simp; done) | (simp; omega) | omega) _) | (refine Ext.trans ?_ (by assumption)) | (refine Ext.trans ?_ (held_left (by assumption))))))))⟩
              case measure => simp [intOf]; omega
          · obtain rfl : j = k := by omega
            have HNO := Hid.mk' (take_any_no hno.out)
            by_cases ht : c.ty < 1 ∨ 6 < c.ty
            · have HR2 := Hid.mk' (show (⟨oid, ver, nm, id, cols⟩ : Rl).right = 11 by rw [HR.out, firstE_at HRL.out hlt (by rw [HAt.out, colE_ty HNM.out HNO.out ht]; decide), HAt.out, colE_ty HNM.out HNO.out ht]; simp)
              rcases ht with ht | ht
              all_goals
                (try have ht1 : 1 ≤ c.ty := by omega)
                go_wp2
                go_ret
                exact ⟨ret_int HR2.out.symm, (hEw.out.trans hEri.out).trans (by (repeat (with_reducible (first | exact Ext.refl _ | assumption | exact held_left (by assumption) | apply Ext.drewN | apply Ext.drew | apply Ext.alloc | (refine Ext.setCell ?_ (by first | (simp; done) | (simp; omega) | omega) _) | (refine Ext.trans ?_ (by assumption)) | (refine Ext.trans ?_ (held_left (by assumption)))))))⟩
            · have ht1 : 1 ≤ c.ty := by omega
              have ht2 : c.ty ≤ 6 := by omega
              have HA0 := Hid.mk' (HAt.out.trans (colE_ok HNM.out HNO.out ht))
              clear ht
              cases B
              all_goals
                go_wp2
                go_roundw
                case rel => exact ⟨j + 1, by omega, by go_num, ⟨_, rfl, by show List.any _ _ = _; rw [HTK.out, hKB.out]; simp⟩, fun i hi => by
                  by_cases e : i = j
                  · subst e; exact HA0.out
                  · exact HRL.out i (by omega), Hid.mk' ((hE.out.trans hEri.out).trans (by (repeat (with_reducible (first | exact Ext.refl _ | assumption | exact held_left (by assumption) | apply Ext.drewN | apply Ext.drew | apply Ext.alloc | (refine Ext.setCell ?_ (by first | (simp; done) | (simp; omega) | omega) _) | (refine Ext.trans ?_ (by assumption)) | (refine Ext.trans ?_ (held_left (by assumption))))))))⟩
                case measure => simp [intOf]; omega
    · have hkk : k = cols.length := by omega
      have hEw : Hid (Ext w wr) := Hid.mk' (((Ext.refl w).alloc _).trans hE.out)
      have HR2 := Hid.mk' (show (⟨oid, ver, nm, id, cols⟩ : Rl).right = if id = 1 ∧ cols.any Col.key = false then 13 else 0 by rw [HR.out, firstE_zero (fun i hi => hrel.out i (by omega)), if_neg (by simp)])
      subst hkk
      rw [List.take_length] at hKB
      rw [hKB.out] at HR2
      clear hrel HR
      by_cases h7 : id = 1
      · subst h7
        cases B
        all_goals
          go_wp2
          go_ret
          exact ⟨ret_int (by rw [HR2.out]; simp), hEw.out⟩
      · have e7 : (id == 1) = false := by simpa using h7
        have HR3 := Hid.mk' (HR2.out.trans (if_neg (fun h => h7 h.1)))
        clear h7 HR2
        go_wp2
        go_ret
        exact ⟨ret_int HR3.out.symm, hEw.out⟩

end Go.Proofs.Ytdbepkfblfhlhaa
