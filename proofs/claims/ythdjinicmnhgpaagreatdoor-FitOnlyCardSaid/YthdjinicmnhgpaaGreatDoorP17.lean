/-
Equal neighbours struck: slices.Compact of refs in a block that is known whole.
-/
import Derived.Lib.SliceRun
import Derived.Laws.AppendOwnNone
import Derived.Maps.AppendAt
import Derived.Test.YthdjinicmnhgpaaGreatDoorP16
namespace Go.Proofs.YthdjinicmnhgpaaGreatDoor
open Go.RowKit Go.Sort

section
variable {w : World} {b : Nat} {l : List Rf} {rest : List Value} {T : TypeId}
theorem Blk.rf {o : Nat} (h : Blk w b (fl2 l ++ rest).toArray T) (ho : o = 0) {i : Nat} (hi : i < l.length) : w.cell? ⟨b, o + i * 2, none⟩ = some (.int .u32 l[i].o) ∧ w.cell? ⟨b, o + i * 2 + 1, none⟩ = some (.int .u32 l[i].v) := by
  subst ho
  have hl := fl2_len l
  have h0 := fl2_get l hi (j := 0) (by decide)
  have h1 := fl2_get l hi (j := 1) (by decide)
  rw [h.cell, h.cell, Nat.zero_add, List.getElem?_toArray, List.getElem?_toArray, List.getElem?_append_left (by omega), List.getElem?_append_left (by omega)]
  exact ⟨h0, h1⟩
theorem fl2_set (l : List Rf) {i : Nat} (hi : i < l.length) (r : Rf) (rest : List Value) : ((fl2 l ++ rest).set (i * 2) (.int .u32 r.o)).set (i * 2 + 1) (.int .u32 r.v) = fl2 (l.set i r) ++ rest := by
  induction l generalizing i with
  | nil => simp at hi
  | cons x l ih =>
    have e : fl2 (x :: l) = .int .u32 x.o :: .int .u32 x.v :: fl2 l := rfl
    cases i with
    | zero => rfl
    | succ i =>
      have hi' : i < l.length := by simpa using hi
      have e2 : fl2 ((x :: l).set (i + 1) r) = .int .u32 x.o :: .int .u32 x.v :: fl2 (l.set i r) := rfl
      rw [e, e2, Nat.add_mul, Nat.one_mul]
      simp only [List.cons_append, List.set_cons_succ]
      rw [ih hi']
theorem Blk.setRf {o : Nat} (h : Blk w b (fl2 l ++ rest).toArray T) (ho : o = 0) {i : Nat} (hi : i < l.length) (r : Rf) : Blk ((w.setCell ⟨b, o + i * 2, none⟩ (.int .u32 r.o)).setCell ⟨b, o + i * 2 + 1, none⟩ (.int .u32 r.v)) b (fl2 (l.set i r) ++ rest).toArray T := by
  subst ho
  have h1 := (h.set (0 + i * 2) (.int .u32 r.o)).set (0 + i * 2 + 1) (.int .u32 r.v)
  rw [← fl2_set l hi r rest]
  simpa only [Nat.zero_add, List.setIfInBounds_toArray] using h1
theorem Blk.setCells : ∀ (vs : List Value) (s : Nat) {w : World} {cs : Array Value}, Blk w b cs T → Blk (w.setCells b s vs) b (setMany cs s vs) T ∧ Kp (fun x => x = b) w (w.setCells b s vs)
  | [], _, _, _, h => ⟨h, Kp.refl⟩
  | v :: r, s, _, _, h => by
    have h1 := Blk.setCells r (s + 1) (h.set s v)
    exact ⟨h1.1, (Kp.set (S := fun x => x = b) ⟨b, s, none⟩ v rfl).trans h1.2 (fun x hx _ => hx)⟩
theorem setMany_take {cs : Array Value} {s : Nat} {vs : List Value} (hs : s ≤ cs.size) : setMany cs s vs = (cs.toList.take s ++ (setMany cs s vs).toList.drop s).toArray := by
  have h : (setMany cs s vs).toList.take s = cs.toList.take s := by
    apply List.ext_getElem?
    intro t
    by_cases ht : t < s
    · have h1 := get_setMany vs s cs t (by omega)
      rw [if_neg (by omega)] at h1
      have hz : t < (setMany cs s vs).size := by rw [size_setMany]; omega
      have hc : t < cs.size := by omega
      rw [getElem!_pos (setMany cs s vs) t hz, getElem!_pos cs t hc] at h1
      rw [List.getElem?_take_of_lt ht, List.getElem?_take_of_lt ht, Array.getElem?_toList, Array.getElem?_toList, Array.getElem?_eq_getElem hz, Array.getElem?_eq_getElem hc, h1]
    · rw [List.getElem?_eq_none (by simp; omega), List.getElem?_eq_none (by simp; omega)]
  rw [← h, List.take_append_drop]
theorem zeroCells_rf (n : Nat) : Builtin.zeroCells #[Value.int .u32 0, Value.int .u32 0] n = (List.replicate (n * 2) (Value.int .u32 0)).toArray := by
  unfold Builtin.zeroCells
  apply Array.ext
  · simp
  · intro i h1 h2
    simp only [Array.getElem_map, Array.getElem_range, List.getElem_toArray, List.getElem_replicate]
    have h3 : i % 2 = 0 ∨ i % 2 = 1 := by omega
    show #[Value.int .u32 0, Value.int .u32 0][i % 2]! = _
    rcases h3 with h | h <;> rw [h] <;> rfl
/-- What 'clear' does to a row's end. -/
theorem run_clear_rf {o kk n cap : Nat} {d : List Rf} (h : Blk w b (fl2 d ++ rest).toArray T) (ho : o = 0) (hk : kk + n = d.length) (hn : 0 < n) :
    ∃ w' rest', (∀ ty : TypeId, (Builtin.clear_ #[81] ty #[.slice (some ⟨b, o + kk * 2, none⟩) n cap]).run Tryz.prog w = .ok (.tuple #[]) w') ∧ Blk w' b (fl2 (d.take kk) ++ rest').toArray T ∧ Kp (fun x => x = b) w w' := by
  subst ho
  have hl := fl2_len d
  have hst := run_storeCells_cells (P := Tryz.prog) b (0 + kk * 2) (List.replicate (n * 2) (Value.int .u32 0)) 0 w (by
    intro j hj
    rw [h.cell, List.getElem?_toArray, List.getElem?_append_left (by simp at hj; omega), List.getElem?_eq_getElem (by simp at hj; omega)]
    rfl) (fun j _ => h.frozen _) (by intro v hv; rw [List.eq_of_mem_replicate hv]; rfl)
  simp only [Nat.add_zero] at hst
  have hB := Blk.setCells (List.replicate (n * 2) (Value.int .u32 0)) (0 + kk * 2) h
  have h2 := hB.1
  rw [setMany_take (by simp; omega)] at h2
  have e : (fl2 d ++ rest).toArray.toList.take (0 + kk * 2) = fl2 (d.take kk) := by
    have e2 : fl2 d = fl2 (d.take kk) ++ fl2 (d.drop kk) := by
      unfold fl2
      rw [← List.flatten_append, ← List.map_append, List.take_append_drop]
    have e3 : (fl2 (d.take kk)).length = kk * 2 := by rw [fl2_len, List.length_take]; omega
    show (fl2 d ++ rest).take _ = _
    rw [e2, Nat.zero_add, ← e3, List.append_assoc, List.take_left]
  rw [e] at h2
  refine ⟨_, _, fun ty => ?_, h2, hB.2⟩
  obtain ⟨m, rfl⟩ : ∃ m, n = m + 1 := ⟨n - 1, by omega⟩
  have hv : ∀ w, (zeroValue 70).run Tryz.prog w = .ok (.agg #[.int .u32 0, .int .u32 0]) w := fun w => Tryz.zeroValue70 w
  have hzc : (Builtin.zeroCells (Value.agg #[.int .u32 0, .int .u32 0]).cells (m + 1)).toList = List.replicate ((m + 1) * 2) (Value.int .u32 0) := by
    show (Builtin.zeroCells #[Value.int .u32 0, Value.int .u32 0] (m + 1)).toList = _
    rw [zeroCells_rf]
  simp only [Nat.zero_add] at hst
  simp [Builtin.clear_, run_underlying Tryz.underlying81, hv, hzc, hst]
end

set_option maxRecDepth 100000 in set_option maxHeartbeats 4000000 in
theorem compact_o (l : List Rf) (blk o cap : Nat) (rest : List Value) (w : World) (ho : o = 0) (hB : Blk w blk (fl2 l ++ rest).toArray 70) (hn : l.length ≤ 1000000000000) (hcap : l.length ≤ cap) :
    Calls Tryz.prog 57 #[.slice (some ⟨blk, o, none⟩) l.length cap] w fun e w' => e = .returned (.slice (some ⟨blk, o, none⟩) (compF l).length cap) ∧ (∃ rest', Blk w' blk (fl2 (compF l) ++ rest').toArray 70) ∧ Kp (fun x => x = blk) w w' := by
  have HO := Hid.mk' ho
  have HB := Hid.mk' hB
  clear ho hB
  by_cases h2 : l.length < 2
  · have HR := Hid.mk' (show compF l = l by
      match l, h2 with
      | [], _ => rfl
      | [a], _ => rfl)
    go_enter Tryz.func57, Tryz.ntmps57
    go_wp2
    go_ret
    exact ⟨by rw [HR.out]; rfl, ⟨rest, by rw [HR.out]; exact HB.out⟩, Kp.refl⟩
  go_enter Tryz.func57, Tryz.ntmps57
  go_wp2
  go_loopw [3] (fun s3 wr => ∃ m : Nat, m + 1 ≤ l.length ∧ s3 = .int .i64 ((m : Int) + 1) ∧ Hid (∀ j, j < m + 1 → Go.Lib.keeps l.toArray j = true) ∧ Hid (Ext w wr)) (fun i _ => l.length - (intOf i).toNat)
  case atStart => exact ⟨0, by omega, rfl, Hid.mk' (Go.Lib.keeps_lt_one _), Hid.mk' (Ext.refl _)⟩
  case round =>
    obtain ⟨m, hm, rfl, hall, hE⟩ := hrel
    have HBr := Hid.mk' (HB.out.ext hE.out)
    by_cases hlt : m + 1 < l.length
    · have hlt0 : m < l.length := by omega
      obtain ⟨f0, f1⟩ := HBr.out.rf HO.out hlt0
      obtain ⟨s0, s1⟩ := HBr.out.rf HO.out hlt
      have hbw := HBr.out.lt
      have hNq := fun w => eql_pref l[m + 1].o l[m + 1].v l[m].o l[m].v w
      have q1 : IntKind.i64.wrap (m : Int) = (m : Int) := IntWalk.i64_in _ (by omega)
      have q2 : ((m : Int) + 1).toNat = m + 1 := by omega
      have i1 : (m : Int) < (l.length : Int) := by omega
      have i2 : (m : Int) + 1 < (l.length : Int) := by omega
      have i3 : (0 : Int) ≤ (m : Int) + 1 := by omega
      have i4 : (0 : Int) ≤ (m : Int) := by omega
      have i5 : ((m + 1 : Nat) : Int) = (m : Int) + 1 := by omega
      have e1 : l.toArray[m + 1]! = l[m + 1] := by rw [getElem!_pos l.toArray (m + 1) (by simpa using hlt)]; simp
      have e2 : l.toArray[m + 1 - 1]! = l[m] := by rw [Nat.add_sub_cancel, getElem!_pos l.toArray m (by simpa using hlt0)]; simp
      by_cases heq : l[m + 1] = l[m]
      · have HD := Hid.mk' (Go.Lib.keeps_neg (d := l.toArray) (m := m + 1) (by omega) (by rw [e1, e2, heq]))
        rw [show rfB ⟨l[m + 1].o, l[m + 1].v⟩ ⟨l[m].o, l[m].v⟩ = true from rfB_true.2 (by rw [heq])] at hNq
        clear heq e1 e2
        go_wp2
        go_region_held3 (fun w' => Ext (wr) w' ∧ (∀ b o, b < (wr).heap.size → w'.cell? ⟨b, o, none⟩ = (wr).cell? ⟨b, o, none⟩) ∧ (∀ b o, b < (wr).heap.size → w'.frozen? ⟨b, o, none⟩ = (wr).frozen? ⟨b, o, none⟩)) ((exact held_of (by (repeat (with_reducible (first | exact Ext.refl _ | assumption | exact held_left (by assumption) | apply Ext.drewN | apply Ext.drew | apply Ext.alloc | (refine Ext.setCell ?_ (by first | (simp; done) | (simp; omega) | omega) _) | (refine Ext.trans ?_ (by assumption)) | (refine Ext.trans ?_ (held_left (by assumption))))))))) (fail)
        clear q1 q2 f0 f1 s0 s1 hNq
        have HLT := Hid.mk' hlt
        obtain ⟨wo, hwo⟩ : ∃ x, x = wr := ⟨_, rfl⟩
        subst hwo
        have HST := Hid.mk' (Go.Lib.CompInv.start hall.out HD.out)
        clear hall HD i1 i2 i3 i4 i5 hbw
        go_wp2
        go_loopw [3, 5] (fun s3 s5 wr => ∃ (kk n : Nat) (dk : List Rf), s3 = .int .i64 kk ∧ s5 = .int .i64 ((n : Int) + 1) ∧ m + 1 + (n + 1) ≤ l.length ∧ dk.length = l.length ∧ kk < m + 1 + (n + 1) ∧ Hid (Go.Lib.CompInv l.toArray (m + 1 + (n + 1)) kk dk.toArray) ∧ Hid (Blk wr blk (fl2 dk ++ rest).toArray 70) ∧ Hid (Kp (fun x => x = blk) w wr)) (fun _ i _ => l.length - (intOf i).toNat)
        case atStart => exact ⟨m + 1, 0, l, by go_num, rfl, by have := HLT.out; omega, rfl, by omega, HST, Hid.mk' (HBr.out.ext (by (repeat (with_reducible (first | exact Ext.refl _ | assumption | exact held_left (by assumption) | apply Ext.drewN | apply Ext.drew | apply Ext.alloc | (refine Ext.setCell ?_ (by first | (simp; done) | (simp; omega) | omega) _) | (refine Ext.trans ?_ (by assumption)) | (refine Ext.trans ?_ (held_left (by assumption)))))))), Hid.mk' (Kp.of_ext (hE.out.trans (by (repeat (with_reducible (first | exact Ext.refl _ | assumption | exact held_left (by assumption) | apply Ext.drewN | apply Ext.drew | apply Ext.alloc | (refine Ext.setCell ?_ (by first | (simp; done) | (simp; omega) | omega) _) | (refine Ext.trans ?_ (by assumption)) | (refine Ext.trans ?_ (held_left (by assumption)))))))))⟩
        case round =>
          obtain ⟨kk, n, dk, rfl, rfl, hle, hdk, hkk, hI, hBx, hK⟩ := hrel
          by_cases hlt2 : m + 1 + (n + 1) < l.length
          · have hi1 : m + 1 + (n + 1) < dk.length := by omega
            have hi0 : m + 1 + n < dk.length := by omega
            have hik : kk < dk.length := by omega
            obtain ⟨f0, f1⟩ := hBx.out.rf HO.out hi0
            obtain ⟨s0, s1⟩ := hBx.out.rf HO.out hi1
            obtain ⟨k0, k1⟩ := hBx.out.rf HO.out hik
            have kf := hBx.out.frozen
            have hbw := hBx.out.lt
            rw [show o + (m + 1 + n) * 2 = o + (m + 1) * 2 + n * 2 by omega] at f0 f1
            rw [show o + (m + 1 + (n + 1)) * 2 = o + (m + 1) * 2 + (n + 1) * 2 by omega] at s0 s1
            have e1 : l.toArray[m + 1 + (n + 1)]! = dk[m + 1 + (n + 1)] := by
              have h := hI.out.high (m + 1 + (n + 1)) (by omega)
              rw [← h, getElem!_pos dk.toArray _ (by simpa using hi1)]; simp
            have e2 : l.toArray[m + 1 + (n + 1) - 1]! = dk[m + 1 + n] := by
              have h := hI.out.high (m + 1 + n) (by omega)
              rw [show m + 1 + (n + 1) - 1 = m + 1 + n by omega, ← h, getElem!_pos dk.toArray _ (by simpa using hi0)]; simp
            have HE1 := Hid.mk' e1
            have HE2 := Hid.mk' e2
            obtain ⟨u, hu⟩ : ∃ u, u = dk[m + 1 + (n + 1)] := ⟨_, rfl⟩
            obtain ⟨v, hv⟩ : ∃ v, v = dk[m + 1 + n] := ⟨_, rfl⟩
            rw [← hu] at s0 s1 HE1
            rw [← hv] at f0 f1 HE2
            clear hu hv e1 e2 hi1 hi0
            have hNq := fun w => neq_pref u.o u.v v.o v.v w
            have q1 : IntKind.i64.wrap (n : Int) = (n : Int) := IntWalk.i64_in _ (by omega)
            have q2 : ((n : Int) + 1).toNat = n + 1 := by omega
            have i1 : (n : Int) < ((l.length - (m + 1) : Nat) : Int) := by omega
            have i2 : (n : Int) + 1 < ((l.length - (m + 1) : Nat) : Int) := by omega
            have i3 : (0 : Int) ≤ (n : Int) + 1 := by omega
            have i4 : (0 : Int) ≤ (n : Int) := by omega
            have i5 : ((n + 1 : Nat) : Int) = (n : Int) + 1 := by omega
            have HLT2 := Hid.mk' hlt2
            by_cases heq : u = v
            · have HS := Hid.mk' (hI.out.skip (Go.Lib.keeps_neg (by omega) (by rw [HE1.out, HE2.out, heq])))
              rw [show rfB ⟨u.o, u.v⟩ ⟨v.o, v.v⟩ = true from rfB_true.2 (by rw [heq])] at hNq
              clear heq hI
              go_wp2
              go_region_held3 (fun w' => Ext (wr) w' ∧ (∀ b o, b < (wr).heap.size → w'.cell? ⟨b, o, none⟩ = (wr).cell? ⟨b, o, none⟩) ∧ (∀ b o, b < (wr).heap.size → w'.frozen? ⟨b, o, none⟩ = (wr).frozen? ⟨b, o, none⟩)) ((exact held_of (by (repeat (with_reducible (first | exact Ext.refl _ | assumption | exact held_left (by assumption) | apply Ext.drewN | apply Ext.drew | apply Ext.alloc | (refine Ext.setCell ?_ (by first | (simp; done) | (simp; omega) | omega) _) | (refine Ext.trans ?_ (by assumption)) | (refine Ext.trans ?_ (held_left (by assumption))))))))) (fail)
              clear q1 q2
              go_wp2
              go_roundw
              case rel => exact ⟨kk, n + 1, dk, rfl, by go_num, by have := HLT2.out; omega, hdk, by omega, HS, Hid.mk' (hBx.out.ext (by (repeat (with_reducible (first | exact Ext.refl _ | assumption | exact held_left (by assumption) | apply Ext.drewN | apply Ext.drew | apply Ext.alloc | (refine Ext.setCell ?_ (by first | (simp; done) | (simp; omega) | omega) _) | (refine Ext.trans ?_ (by assumption)) | (refine Ext.trans ?_ (held_left (by assumption)))))))), Hid.mk' (hK.out.trans (Kp.of_ext (S := fun x => x = blk) (by (repeat (with_reducible (first | exact Ext.refl _ | assumption | exact held_left (by assumption) | apply Ext.drewN | apply Ext.drew | apply Ext.alloc | (refine Ext.setCell ?_ (by first | (simp; done) | (simp; omega) | omega) _) | (refine Ext.trans ?_ (by assumption)) | (refine Ext.trans ?_ (held_left (by assumption)))))))) (fun x hx _ => hx))⟩
              case measure => have := HLT2.out; simp [intOf]; omega
            · have HS := Hid.mk' (hI.out.keep (by simpa using hlt2) (Go.Lib.keeps_pos (by rw [HE1.out, HE2.out]; exact heq)))
              rw [show rfB ⟨u.o, u.v⟩ ⟨v.o, v.v⟩ = false from rfB_false.2 heq] at hNq
              rw [HE1.out, List.setIfInBounds_toArray] at HS
              clear heq hI
              go_wp2
              go_region_held3 (fun w' => Ext (wr) w' ∧ (∀ b o, b < (wr).heap.size → w'.cell? ⟨b, o, none⟩ = (wr).cell? ⟨b, o, none⟩) ∧ (∀ b o, b < (wr).heap.size → w'.frozen? ⟨b, o, none⟩ = (wr).frozen? ⟨b, o, none⟩)) ((exact held_of (by (repeat (with_reducible (first | exact Ext.refl _ | assumption | exact held_left (by assumption) | apply Ext.drewN | apply Ext.drew | apply Ext.alloc | (refine Ext.setCell ?_ (by first | (simp; done) | (simp; omega) | omega) _) | (refine Ext.trans ?_ (by assumption)) | (refine Ext.trans ?_ (held_left (by assumption))))))))) (fail)
              clear q1
              go_wp2
              go_roundw
              case rel => exact ⟨kk + 1, n + 1, dk.set kk u, by go_num, by go_num, by have := HLT2.out; omega, by rw [List.length_set]; exact hdk, by omega, HS, Hid.mk' ((hBx.out.setRf HO.out hik u).drew), Hid.mk' (((hK.out.trans (Kp.set (S := fun x => x = blk) ⟨blk, o + kk * 2, none⟩ (.int .u32 u.o) rfl) (fun x hx _ => hx)).trans (Kp.set (S := fun x => x = blk) ⟨blk, o + kk * 2 + 1, none⟩ (.int .u32 u.v) rfl) (fun x hx _ => hx)).trans (Kp.of_ext (S := fun x => x = blk) (by (repeat (with_reducible (first | exact Ext.refl _ | assumption | exact held_left (by assumption) | apply Ext.drewN | apply Ext.drew | apply Ext.alloc | (refine Ext.setCell ?_ (by first | (simp; done) | (simp; omega) | omega) _) | (refine Ext.trans ?_ (by assumption)) | (refine Ext.trans ?_ (held_left (by assumption)))))))) (fun x hx _ => hx))⟩
              case measure => have := HLT2.out; simp [intOf]; omega
          · have hend : m + 1 + (n + 1) = l.length := by omega
            have hkn : kk + (l.length - kk) = dk.length := by omega
            obtain ⟨w9, rest', hrun, hB9, hK9⟩ := run_clear_rf (cap := cap - kk) hBx.out HO.out hkn (by omega)
            have hR : (compF l).length = kk ∧ dk.take kk = compF l := by
              have h := hI.out
              have hsz : m + 1 + (n + 1) = l.toArray.size := by simpa using hend
              rw [hsz] at h
              have h1 := h.len
              rw [compactUpTo_all'] at h1
              refine ⟨h1, List.ext_getElem (by rw [List.length_take, h1]; omega) (fun i hi1 hi2 => ?_)⟩
              have h2 := h.low i (by omega)
              rw [compactUpTo_all', List.getElem?_eq_getElem hi2, getElem!_pos dk.toArray i (by simp; omega)] at h2
              rw [List.getElem_take]
              simpa using (Option.some.inj h2).symm
            rw [hR.2] at hB9
            have HR := Hid.mk' hR.1
            have HB9 := Hid.mk' hB9
            have HK9 := Hid.mk' (hK.out.trans hK9 (fun x hx _ => hx))
            clear hR hB9 hK9 hI hBx hK hkn
            go_wp2
            go_ret
            exact ⟨by rw [HR.out]; rfl, ⟨rest', HB9.out⟩, HK9.out⟩
      · have HD := Hid.mk' (Go.Lib.keeps_pos (d := l.toArray) (m := m + 1) (by rw [e1, e2]; exact heq))
        rw [show rfB ⟨l[m + 1].o, l[m + 1].v⟩ ⟨l[m].o, l[m].v⟩ = false from rfB_false.2 heq] at hNq
        clear heq e1 e2
        go_wp2
        go_region_held3 (fun w' => Ext (wr) w' ∧ (∀ b o, b < (wr).heap.size → w'.cell? ⟨b, o, none⟩ = (wr).cell? ⟨b, o, none⟩) ∧ (∀ b o, b < (wr).heap.size → w'.frozen? ⟨b, o, none⟩ = (wr).frozen? ⟨b, o, none⟩)) ((exact held_of (by (repeat (with_reducible (first | exact Ext.refl _ | assumption | exact held_left (by assumption) | apply Ext.drewN | apply Ext.drew | apply Ext.alloc | (refine Ext.setCell ?_ (by first | (simp; done) | (simp; omega) | omega) _) | (refine Ext.trans ?_ (by assumption)) | (refine Ext.trans ?_ (held_left (by assumption))))))))) (fail)
        clear q1 q2
        go_wp2
        go_roundw
        case rel => exact ⟨m + 1, by omega, by go_num, Hid.mk' (fun j hj => by
          by_cases e : j = m + 1
          · subst e; exact HD.out
          · exact hall.out j (by omega)), Hid.mk' (hE.out.trans (by (repeat (with_reducible (first | exact Ext.refl _ | assumption | exact held_left (by assumption) | apply Ext.drewN | apply Ext.drew | apply Ext.alloc | (refine Ext.setCell ?_ (by first | (simp; done) | (simp; omega) | omega) _) | (refine Ext.trans ?_ (by assumption)) | (refine Ext.trans ?_ (held_left (by assumption))))))))⟩
        case measure => simp [intOf]; omega
    · have hkk : m + 1 = l.length := by omega
      have HR := Hid.mk' (show compF l = l by
        have h := compactUpTo_all' l
        rw [Go.Lib.compactUpTo_all _ _ (fun j hj => hall.out j (by simp at hj; omega)), Go.Lib.range_map_get] at h
        rw [← h])
      go_wp2
      go_ret
      exact ⟨by rw [HR.out]; rfl, ⟨rest, by rw [HR.out]; exact HBr.out⟩, Kp.of_ext hE.out⟩

end Go.Proofs.YthdjinicmnhgpaaGreatDoor

/-
All refs that transactions use: the program's Used.
-/
namespace Go.Proofs.YthdjinicmnhgpaaGreatDoor
open Go.RowKit Go.Sort

theorem Tryz.infoRfU : (Tryz.prog.info? 70).map (fun i => (i.zero, i.size, i.bytes)) = some (some (.agg #[.int .u32 0, .int .u32 0]), 2, 8) := by kernel_rfl
theorem fl2_app (l m : List Rf) : fl2 (l ++ m) = fl2 l ++ fl2 m := by unfold fl2; simp
theorem fl2_one (l : List Rf) : ∀ u ∈ fl2 l, u.oneCell' = true := by
  intro u hu
  unfold fl2 at hu
  rw [List.mem_flatten] at hu
  obtain ⟨xs, hxs, hu⟩ := hu
  rw [List.mem_map] at hxs
  obtain ⟨c, _, rfl⟩ := hxs
  exact rf_one c u hu

set_option maxRecDepth 20000 in
theorem app_rf {w : World} {ops : Array Oper} {rest : List Oper} {o : Oper} {a : Act} {Q : Exit → Act → World → Prop} (hgd : o.guard = none) (s x : Operand)
    (ho : o.op = .call { callee := .builtin .append, args := #[s, x], argTypes := #[81, 81] })
    (base : Nat) (v : Value) (l : List Rf) (hs : a.eval s = v) (hown : w.ownsRow base 70 2 v l.length (fl2 l)) (base2 : Nat) (u : Value) (m : List Rf) (hx : a.eval x = u) (hu : w.ownsRow base2 70 2 u m.length (fl2 m))
    (h63 : l.length + m.length ≤ 10000000000) (hbase : base ≤ w.heap.size)
    (h : ∀ v' w', w'.ownsRow base 70 2 v' (l ++ m).length (fl2 (l ++ m)) → w.grownBy w' v.ownBlock → wpList Tryz.prog ops Q rest (a.put o.dst v') w') : wpList Tryz.prog ops Q (o :: rest) a w := by
  obtain ⟨i0, hi, hz0, hz1, hz2⟩ := info_parts Tryz.infoRfU
  rcases hu.2 with ⟨rfl, h0⟩ | ⟨g, cap, cur, rfl, _⟩
  · have hm : m = [] := List.length_eq_zero_iff.1 h0
    subst hm
    refine Go.wpList_append_own_none hgd s x 81 ho base 70 i0 2 Tryz.underlying81 hi v _ _ hs hown hx ?_
    exact h v w (by rw [List.append_nil]; exact hown) ⟨rfl, rfl, rfl, Nat.le_refl _, fun _ _ _ => rfl⟩
  · exact wpList_append_own w hgd s x 81 ho base 70 i0 _ 2 8 Tryz.underlying81 hi hz0 hz1 hz2 rfl (by decide) v _ _ hs hown ⟨g, 0, none⟩ m.length cap (fl2 m) hx (fl2_len m) (World.ownsRow.cells hu rfl) (fl2_one m) (by unfold maxLen; omega) (by omega) hbase
      (fun v' w' h1 h2 _ => h v' w' (by rw [List.length_append, fl2_app]; exact h1) h2)

theorem compact_nil (c : Nat) (w : World) : Calls Tryz.prog 57 #[.slice none 0 c] w fun e w' => e = .returned (.slice none 0 c) ∧ w = w' := by
  go_enter Tryz.func57, Tryz.ntmps57
  go_wp2
  go_ret
  exact ⟨rfl, rfl⟩

set_option maxRecDepth 100000 in set_option maxHeartbeats 8000000 in
theorem used_any (ts : List TL) (a : Option Addr) (c : Nat) (w : World) (ht : TS 5 K.pc w (.slice a ts.length c) ts) (hn : ts.length ≤ 1000) (hm : ∀ t ∈ ts, t.es.length ≤ 1000) (hs : ∀ t ∈ ts, ∀ e ∈ t.es, e.e.small) :
    Calls Tryz.prog 32 #[.slice a ts.length c] w fun e w' => ∃ a' n c', e = .returned (.slice a' n c') ∧ n = (usedL (ts.map TL.t)).length ∧ Sl w' (.slice a' n c') 2 ((usedL (ts.map TL.t)).map Rf.cells) ∧ (∀ b o, a' = some ⟨b, o, none⟩ → w.heap.size ≤ b) ∧ Ext w w' := by
  have HT := Hid.mk' ht
  have HM := Hid.mk' hm
  have HS := Hid.mk' hs
  have HLN : Hid (∀ k, k ≤ ts.length → (usesTs ((ts.take k).map TL.t)).length ≤ 1000000000) := Hid.mk' (fun k hk => by
    have h := usesTs_len (M := 1000) (L := 1000) (by decide) (ts := (ts.take k).map TL.t) (fun t ht => by
      obtain ⟨x, hx, rfl⟩ := List.mem_map.1 ht
      have hx := List.mem_of_mem_take hx
      refine ⟨by show (x.es.map EL.e).length ≤ 1000; rw [List.length_map]; exact hm x hx, fun e he => ?_⟩
      obtain ⟨y, hy, rfl⟩ := List.mem_map.1 he
      exact (hs x hx y hy).r)
    rw [List.length_map, List.length_take] at h
    omega)
  clear ht hm hs
  go_enter Tryz.func32, Tryz.ntmps32
  go_wp2
  go_loopg [3, 10] ts.length (fun z v i wr => ∃ k : Nat, z + k = ts.length ∧ i = .int .i64 k ∧ Hid (wr.ownsRow w.heap.size 70 2 v (usesTs ((ts.take k).map TL.t)).length (fl2 (usesTs ((ts.take k).map TL.t)))) ∧ Hid (Ext w wr))
  case atStart => exact ⟨0, by omega, rfl, Hid.mk' (World.ownsRow_nil _ _ _ _), Hid.mk' (Ext.refl _)⟩
  case round =>
    obtain ⟨k, hzk, rfl, hown, hE⟩ := hrel
    by_cases hlt : k < ts.length
    · obtain ⟨b, o, rfl, hb, hx⟩ := HT.out.row.at_ (i := k) (by simpa using hlt)
      obtain ⟨f0, f1, f2⟩ := TL.at_ hlt hx hb hE.out
      have hbw : b < wr.heap.size := Nat.lt_of_lt_of_le hb hE.out.size
      have HES := Hid.mk' (HT.out.sl _ (List.getElem_mem hlt))
      have HMM := Hid.mk' (HM.out _ (List.getElem_mem hlt))
      have HSS := Hid.mk' (HS.out _ (List.getElem_mem hlt))
      have HTK : Hid (usesTs ((ts.take (k + 1)).map TL.t) = usesTs ((ts.take k).map TL.t) ++ usesEs (ts[k].es.map EL.e)) := Hid.mk' (by rw [List.take_succ_eq_append_getElem hlt, List.map_append]; exact usesTs_snoc _ _)
      have HLK := Hid.mk' (HLN.out (k + 1) hlt)
      obtain ⟨q, hq⟩ : ∃ q, q = usesTs ((ts.take k).map TL.t) := ⟨_, rfl⟩
      rw [← hq] at hown HTK
      obtain ⟨t, hte⟩ : ∃ t, t = ts[k] := ⟨_, rfl⟩
      rw [← hte] at f0 f1 f2 HES HMM HSS HTK
      have HLT := Hid.mk' hlt
      clear hte hx hb hq
      obtain ⟨xid, st, es, ta, tc⟩ := t
      simp only at f0 f1 f2 HMM HSS HTK
      have HES2 : Hid (ES 5 K.pc w (.slice ta es.length tc) es) := HES
      rw [HTK.out, List.length_append] at HLK
      clear HES
      obtain ⟨wo, hwo⟩ : ∃ x, x = wr := ⟨_, rfl⟩
      subst hwo
      go_wp2
      have HE1 : Hid (Ext w (wo.alloc (.cells #[.int .u32 xid, .int .u64 st, .slice ta es.length tc] 78))) := Hid.mk' (hE.out.alloc _)
      have HO1 := Hid.mk' (owns_ext hown.out ((Ext.refl wo).alloc (.cells #[.int .u32 xid, .int .u64 st, .slice ta es.length tc] 78)))
      obtain ⟨w1, hw1⟩ : ∃ w1, w1 = wo.alloc (.cells #[.int .u32 xid, .int .u64 st, .slice ta es.length tc] 78) := ⟨_, rfl⟩
      rw [← hw1] at HE1 HO1 ⊢
      clear hw1 f0 f1 f2 hE hown
      go_loopg [3, 17] es.length (fun z2 v i wr => ∃ n : Nat, z2 + n = es.length ∧ i = .int .i64 n ∧ Hid (wr.ownsRow w.heap.size 70 2 v (q ++ usesEs ((es.take n).map EL.e)).length (fl2 (q ++ usesEs ((es.take n).map EL.e)))) ∧ Hid (Ext w wr))
      case atStart => exact ⟨0, by omega, rfl, Hid.mk' (by simpa [usesEs] using HO1.out), HE1⟩
      case round =>
        obtain ⟨n, hzn, rfl, hO, hK⟩ := hrel
        by_cases hlt2 : n < es.length
        · obtain ⟨b2, o2, rfl, hb2, hx2⟩ := HES2.out.row.at_ (i := n) (by simpa using hlt2)
          obtain ⟨g0, g1, g2, g3, g4, g5, g6, g7⟩ := EL.at_ hlt2 hx2 hb2 hK.out
          have hbw2 : b2 < wr.heap.size := Nat.lt_of_lt_of_le hb2 hK.out.size
          have HTN : Hid (usesEs ((es.take (n + 1)).map EL.e) = usesEs ((es.take n).map EL.e) ++ usesE es[n].e) := Hid.mk' (by rw [List.take_succ_eq_append_getElem hlt2, List.map_append]; exact usesEs_snoc _ _)
          have HLN2 : Hid (q.length + (usesEs ((es.take n).map EL.e)).length + (usesE es[n].e).length ≤ 1000000000) := Hid.mk' (by
            have h1 : es.map EL.e = (es.take (n + 1)).map EL.e ++ (es.drop (n + 1)).map EL.e := by rw [← List.map_append, List.take_append_drop]
            have h2 : usesEs (es.map EL.e) = usesEs ((es.take (n + 1)).map EL.e) ++ usesEs ((es.drop (n + 1)).map EL.e) := by
              conv => lhs; rw [h1]
              unfold usesEs; rw [List.map_append, List.flatten_append]
            have h3 := HLK.out
            rw [h2, HTN.out, List.length_append, List.length_append] at h3
            omega)
          have HUS := Hid.mk' (fun W (h : Ext w W) => euses_any es[n] W ((HES2.out.sl _ (List.getElem_mem hlt2)).ext h) (HSS.out _ (List.getElem_mem hlt2)))
          obtain ⟨p, hp⟩ : ∃ p, p = usesEs ((es.take n).map EL.e) := ⟨_, rfl⟩
          rw [← hp] at HTN HLN2 hO
          obtain ⟨x, hxx⟩ : ∃ x, x = es[n] := ⟨_, rfl⟩
          rw [← hxx] at g0 g1 g2 g3 g4 g5 g6 g7 HTN HLN2 HUS
          have HLT2 := Hid.mk' hlt2
          clear hxx hp hx2
          obtain ⟨⟨k1, ao1, av1, old1, b1, a1, r1, fl1⟩, ba1, bc1, aa1, ac1, ra1, rc1⟩ := x
          unfold EL.agg at HUS
          simp only at g0 g1 g2 g3 g4 g5 g6 g7 HUS HTN HLN2
          obtain ⟨U, hU⟩ : ∃ U, U = usesE ⟨k1, ao1, av1, old1, b1, a1, r1, fl1⟩ := ⟨_, rfl⟩
          rw [← hU] at HUS HTN HLN2
          clear hU
          have HX : Hid (Ext w (wr.alloc (.cells #[.int .u8 k1, .int .u32 ao1, .int .u32 av1, .int .u8 old1, .slice ba1 b1.length bc1, .slice aa1 a1.length ac1, .slice ra1 r1.length rc1, .int .u8 fl1] 83))) := Hid.mk' (hK.out.alloc _)
          go_wp2_with (first
            | (go_at_call 54; refine (HUS.out _ HX.out).mono ?_; rintro e w3 ⟨a3, n3, c3, rfl, rfl, ho3, hb3⟩; have HO3 := Hid.mk' ho3; have HB3 := Hid.mk' (show Ext wr w3 from ((Ext.refl wr).alloc _).trans hb3); clear ho3 hb3)
            | (at_builtin; refine app_rf rfl _ _ rfl w.heap.size _ (q ++ p) rfl (owns_ext hO.out HB3.out) _ _ U rfl HO3.out ?c1 ?c2 ?_))
          case c1 => rw [List.length_append]; have := HLN2.out; omega
          case c2 => exact Nat.le_trans hK.out.size HB3.out.size
          intro v4 w4 hown4 hg4
          have HO4 := Hid.mk' hown4
          have HE4 : Hid (Ext w w4) := Hid.mk' ((hK.out.trans HB3.out).grown (owns_ext hO.out HB3.out) hg4)
          clear hown4 hg4
          have hml := HMM.out
          have hlt3 := HLT2.out
          go_wp2
          go_roundg (es.length - (n + 1))
          case measure => have := HLT2.out; omega
          case rel => exact ⟨n + 1, Nat.sub_add_cancel HLT2.out, by go_num, Hid.mk' (by rw [HTN.out]; have h := HO4.out; simpa only [List.length_append, List.append_assoc, Nat.add_assoc] using h), HE4⟩
        · obtain rfl : n = es.length := by omega
          rw [List.take_length] at hO
          rw [← HTK.out] at hO
          go_wp2
          go_roundg (ts.length - (k + 1))
          case measure => have := HLT.out; omega
          case rel => exact ⟨k + 1, by have := HLT.out; omega, by go_num, hO, hK⟩
    · obtain rfl : k = ts.length := by omega
      have hll := HLN.out ts.length (Nat.le_refl _)
      rw [List.take_length] at hown hll
      have HU : Hid (∀ d, Wax d → d.Perm (usesTs (ts.map TL.t)) → compF d = usedL (ts.map TL.t)) := Hid.mk' (fun d h1 h2 => comp_put h1 (fun x => h2.mem_iff))
      obtain ⟨q, hq⟩ : ∃ q, q = usesTs (ts.map TL.t) := ⟨_, rfl⟩
      rw [← hq] at hown hll HU
      have hown2 := hown.out
      rcases hown2.2 with ⟨rfl, h0⟩ | ⟨g, cap, cur, rfl, hg, hBl, hnc, hcm, hsz, htk⟩
      · have hqe : q = [] := List.length_eq_zero_iff.1 h0
        have HR : Hid (usedL (ts.map TL.t) = []) := Hid.mk' (by
          have h := HU.out [] List.Pairwise.nil (by rw [hqe])
          rw [← h]; unfold compF; rfl)
        clear hown2 hq h0 hqe hll
        go_wp2_with (first
          | (go_at_call 55; refine (sort_none _ _ _ _).mono ?_; rintro e w3 ⟨rfl, rfl⟩)
          | (go_at_call 57; refine (compact_nil _ _).mono ?_; rintro e w3 ⟨rfl, rfl⟩))
        go_ret
        exact ⟨none, 0, 0, rfl, by rw [HR.out]; rfl, by rw [HR.out]; exact ⟨none, 0, rfl, .inl rfl⟩, (fun b o e => by cases e), hE.out⟩
      · have hcur : cur = (fl2 q ++ cur.toList.drop (q.length * 2)).toArray := by
          rw [← htk, List.take_append_drop]
        have hBq : Blk wr g (fl2 q ++ cur.toList.drop (q.length * 2)).toArray 70 := by rw [← hcur]; exact hBl
        obtain ⟨rest, hrest⟩ : ∃ r, r = cur.toList.drop (q.length * 2) := ⟨_, rfl⟩
        rw [← hrest] at hBq
        have HSO := Hid.mk' (sort_any q g cap rest wr hBq (by omega))
        have HG := Hid.mk' (And.intro hg hnc)
        have HLL := Hid.mk' hll
        clear hown2 hq hll hcur hBq hrest hBl hnc hcm hsz htk hg hown
        go_wp2_with (first
          | (go_at_call 55; refine HSO.out.mono ?_; rintro e w3 ⟨rfl, d, hdl, hpm, hwx, hBd, hKd⟩; have HP := Hid.mk' (And.intro (HU.out d hwx hpm) (And.intro hBd hKd)); have HCM := Hid.mk' (compact_o d g 0 cap rest w3 rfl hBd (by have := HLL.out; omega) (by have := HG.out; omega)); rw [hdl] at HCM; clear hdl hpm hwx hBd hKd)
          | (go_at_call 57; refine HCM.out.mono ?_; rintro e w4 ⟨rfl, ⟨rest', hB4⟩, hK4⟩; have HB4 := Hid.mk' (And.intro hB4 hK4); clear hB4 hK4))
        go_ret
        have h1 := HP.out.1
        have hB4 := HB4.out.1
        rw [h1] at hB4
        refine ⟨_, _, _, rfl, by rw [h1], ?_, fun b o e => ?_, ?_⟩
        · rw [h1]
          refine ⟨_, _, by rw [List.length_map], .inr ⟨g, 0, rfl, hB4.lt, fun i hi j hj => ?_⟩⟩
          rw [List.length_map] at hi
          rw [getD_map Rf.cells _ hi, hB4.cell, List.getElem?_toArray, List.getElem?_append_left (by rw [fl2_len]; omega), Nat.zero_add]
          exact fl2_get _ hi hj
        · simp only [Option.some.injEq, Addr.mk.injEq] at e
          have := HG.out.1
          omega
        · refine Kp.ext (S := fun x => x = g) hE.out (fun x hx _ => by have := HG.out.1; omega) (HP.out.2.2.trans HB4.out.2 (fun x hx _ => hx))

end Go.Proofs.YthdjinicmnhgpaaGreatDoor

/-
The relations that transactions use alone: the program's answer.
-/
namespace Go.Proofs.YthdjinicmnhgpaaGreatDoor
open Go.RowKit

theorem ofRefs_skip {l : List Rl} {rs : List Rf} {k : Nat} (hk : k < rs.length) (h : hasR rs[k].o rs[k].v l = false) : l.filter (ofRefs (rs.take (k + 1))) = l.filter (ofRefs (rs.take k)) := by
  refine List.filter_congr (fun r hr => ?_)
  have h1 : isR rs[k].o rs[k].v r = false := by
    unfold hasR at h
    rw [List.any_eq_false] at h
    simpa using h r hr
  rw [List.take_succ_eq_append_getElem hk]
  unfold ofRefs
  rw [List.any_append, List.any_cons, List.any_nil, h1]
  simp

theorem refs_apart {w w2 : World} {c' : Value} {b : Nat} (h1 : w.heap.size + 1 ≤ b) (h2 : b < w2.heap.size) (h3 : ∀ b, c'.ownBlock = some b → w2.heap.size ≤ b) : ¬ Ca.S w.heap.size c' b := fun hS => hS.elim (fun e => by omega) (fun e => by have := h3 _ e; omega)
theorem own_grow {w2 W : World} {c' c8 : Value} (hnew : ∀ b, c8.ownBlock = some b → c'.ownBlock = some b ∨ W.heap.size ≤ b) (h3 : ∀ b, c'.ownBlock = some b → w2.heap.size ≤ b) (hs : w2.heap.size ≤ W.heap.size) : ∀ b, c8.ownBlock = some b → w2.heap.size ≤ b := fun b h => (hnew b h).elim (h3 b) (fun h2 => Nat.le_trans hs h2)

set_option maxRecDepth 100000 in set_option maxHeartbeats 4000000 in
theorem fonly_any (ts : List TL) (a : Option Addr) (cap : Nat) (N g : Nat) (c : Value) (ps : List RR) (w : World) (hc : Ca w N g c ps) (ht : TS 5 K.pc w (.slice a ts.length cap) ts) (hn : ts.length ≤ 1000) (h1 : ∀ t ∈ ts, t.es.length ≤ 1000) (h2 : ∀ t ∈ ts, ∀ e ∈ t.es, e.e.small) (hu : (usedL (ts.map TL.t)).length ≤ 1000000000) :
    Calls Tryz.prog 13 #[.pointer (some ⟨g, 0, none⟩), .slice a ts.length cap] w fun e w' => e = .returned (.pointer (some ⟨w.heap.size, 0, none⟩)) ∧ (∃ c' qs, Ca w' w.heap.size w.heap.size c' qs ∧ qs.map RR.r = (ps.map RR.r).filter (ofRefs (usedL (ts.map TL.t)))) ∧ Ext w w' := by
  have HC := Hid.mk' hc
  have HOK := Hid.mk' hc.ok
  have HWB : Hid (∀ x, x ∈ ps.map RR.r → x.wb) := Hid.mk' (fun x hx => by
    obtain ⟨p, hp, rfl⟩ := List.mem_map.1 hx
    exact hc.wb p hp)
  have HUS := Hid.mk' (fun W (h : Ext w W) => used_any ts a cap W (ht.ext h) hn h1 h2)
  obtain ⟨rs, hrs⟩ : ∃ rs, rs = usedL (ts.map TL.t) := ⟨_, rfl⟩
  rw [← hrs] at HUS hu ⊢
  clear hc ht h1 h2 hrs
  go_enter Tryz.func13, Tryz.ntmps13
  go_wp2_with (first
    | (go_at_call 24; refine (new_any _).mono ?_; rintro e w1 ⟨rfl, rfl⟩)
    | (go_at_call 32; refine (HUS.out _ (by (repeat (with_reducible (first | exact Ext.refl _ | assumption | exact held_left (by assumption) | apply Ext.drewN | apply Ext.drew | apply Ext.alloc | (refine Ext.setCell ?_ (by first | (simp; done) | (simp; omega) | omega) _) | (refine Ext.trans ?_ (by assumption)) | (refine Ext.trans ?_ (held_left (by assumption)))))))).mono ?_; rintro e w2 ⟨a2, n2, c2, rfl, rfl, hs2, hnb, hb2⟩; have HNB := Hid.mk' hnb; have HR := Hid.mk' hs2; have HB2 := Hid.mk' hb2; have HE2 : Hid (Ext w w2) := Hid.mk' (by (repeat (with_reducible (first | exact Ext.refl _ | assumption | exact held_left (by assumption) | apply Ext.drewN | apply Ext.drew | apply Ext.alloc | (refine Ext.setCell ?_ (by first | (simp; done) | (simp; omega) | omega) _) | (refine Ext.trans ?_ (by assumption)) | (refine Ext.trans ?_ (held_left (by assumption))))))); clear hs2 hnb hb2))
  go_loopg [14] rs.length (fun z i wr => ∃ (k : Nat) (c' : Value) (qs : List RR), z + k = rs.length ∧ i = .int .i64 k ∧ Hid (Ca wr w.heap.size w.heap.size c' qs) ∧ Hid (qs.map RR.r = (ps.map RR.r).filter (ofRefs (rs.take k))) ∧ Hid (∀ b, c'.ownBlock = some b → w2.heap.size ≤ b) ∧ Hid (w2.heap.size ≤ wr.heap.size) ∧ Hid (Ext w wr) ∧ Hid (Sl wr (.slice a2 rs.length c2) 2 (rs.map Rf.cells)))
  case atStart => exact ⟨0, _, [], by omega, rfl, Hid.mk' ((Ca.new w).ext HB2.out), Hid.mk' (by simp [ofRefs]), Hid.mk' (fun b hb => by cases hb), Hid.mk' (Nat.le_refl _), HE2, HR⟩
  case round =>
    obtain ⟨k, c', qs, hzk, rfl, hca, hqs, hown, hsz, hE, hSl⟩ := hrel
    by_cases hlt : k < rs.length
    · obtain ⟨b, o, rfl, hb, hx⟩ := hSl.out.at_ (i := k) (by simpa using hlt)
      obtain ⟨f0, f1⟩ := Rf.at_ hlt hx hb (Ext.refl wr)
      have hbz : w.heap.size + 1 ≤ b := by have h := HNB.out b _ rfl; simpa using h
      have HBZ := Hid.mk' hbz
      have HBW := Hid.mk' (show b < w2.heap.size from by
        obtain ⟨b', o', e', hb', hx'⟩ := HR.out.at_ (i := k) (by simpa using hlt)
        simp only [Option.some.injEq, Addr.mk.injEq] at e'
        obtain ⟨rfl, -, -⟩ := e'
        exact hb')
      have hd1 : decide (rs.length ≤ k) = false := decide_eq_false (by omega)
      have hd2 : decide ((rs.length : Int) ≤ (k : Int)) = false := decide_eq_false (by omega)
      have HKL := Hid.mk' (show k ≤ 1000000000 by omega)
      cases hh : hasR rs[k].o rs[k].v (ps.map RR.r) with
      | false =>
        have HST := Hid.mk' (ofRefs_skip hlt hh)
        have HGT := Hid.mk' (fun W (h : Ext w W) => cget_not (HC.out.ext h) hh)
        obtain ⟨r, hr⟩ : ∃ r, r = rs[k] := ⟨_, rfl⟩
        rw [← hr] at f0 f1 HGT
        have HLT : Hid (k < rs.length) := Hid.mk' hlt
        clear hx hr hh hbz
        go_wp2_with (go_at_call 33; refine (HGT.out _ (hE.out.trans (by (repeat (with_reducible (first | exact Ext.refl _ | assumption | exact held_left (by assumption) | apply Ext.drewN | apply Ext.drew | apply Ext.alloc | (refine Ext.setCell ?_ (by first | (simp; done) | (simp; omega) | omega) _) | (refine Ext.trans ?_ (by assumption)) | (refine Ext.trans ?_ (held_left (by assumption))))))))).mono ?_; rintro e w7 ⟨a7, c7, rfl, -, hb7⟩; have HB7 : Hid (Ext wr w7) := Hid.mk' (by (repeat (with_reducible (first | exact Ext.refl _ | assumption | exact held_left (by assumption) | apply Ext.drewN | apply Ext.drew | apply Ext.alloc | (refine Ext.setCell ?_ (by first | (simp; done) | (simp; omega) | omega) _) | (refine Ext.trans ?_ (by assumption)) | (refine Ext.trans ?_ (held_left (by assumption))))))))
        have hf : Ext w7 (w7.alloc (.cells #[.int .u32 0, .int .u32 0, .string ⟨#[]⟩, .int .u8 0, .slice a7 0 c7] 73)) := (Ext.refl _).alloc _
        go_roundg (rs.length - (k + 1))
        case measure => have := HLT.out; omega
        case rel => exact ⟨k + 1, c', qs, Nat.sub_add_cancel HLT.out, by go_num, Hid.mk' (hca.out.ext (HB7.out.trans (by (repeat (with_reducible (first | exact Ext.refl _ | assumption | exact held_left (by assumption) | apply Ext.drewN | apply Ext.drew | apply Ext.alloc | (refine Ext.setCell ?_ (by first | (simp; done) | (simp; omega) | omega) _) | (refine Ext.trans ?_ (by assumption)) | (refine Ext.trans ?_ (held_left (by assumption))))))))), Hid.mk' (by rw [hqs.out, HST.out]), hown, Hid.mk' (Nat.le_trans hsz.out (Ext.size (HB7.out.trans (by (repeat (with_reducible (first | exact Ext.refl _ | assumption | exact held_left (by assumption) | apply Ext.drewN | apply Ext.drew | apply Ext.alloc | (refine Ext.setCell ?_ (by first | (simp; done) | (simp; omega) | omega) _) | (refine Ext.trans ?_ (by assumption)) | (refine Ext.trans ?_ (held_left (by assumption)))))))))), Hid.mk' (hE.out.trans (HB7.out.trans (by (repeat (with_reducible (first | exact Ext.refl _ | assumption | exact held_left (by assumption) | apply Ext.drewN | apply Ext.drew | apply Ext.alloc | (refine Ext.setCell ?_ (by first | (simp; done) | (simp; omega) | omega) _) | (refine Ext.trans ?_ (by assumption)) | (refine Ext.trans ?_ (held_left (by assumption))))))))), Hid.mk' (hSl.out.ext (HB7.out.trans (by (repeat (with_reducible (first | exact Ext.refl _ | assumption | exact held_left (by assumption) | apply Ext.drewN | apply Ext.drew | apply Ext.alloc | (refine Ext.setCell ?_ (by first | (simp; done) | (simp; omega) | omega) _) | (refine Ext.trans ?_ (by assumption)) | (refine Ext.trans ?_ (held_left (by assumption)))))))))⟩
      | true =>
        obtain ⟨x, hgx⟩ := hasR_some hh
        have HXW := Hid.mk' (HWB.out x (getR_some hgx).1)
        have HST := Hid.mk' (only_step HOK.out hlt hgx)
        have HGT := Hid.mk' (fun W (h : Ext w W) => cget_is (HC.out.ext h) hgx)
        obtain ⟨r, hr⟩ : ∃ r, r = rs[k] := ⟨_, rfl⟩
        rw [← hr] at f0 f1 HGT
        have HSG := Hid.mk' hca.out.S_ge
        have HLT : Hid (k < rs.length) := Hid.mk' hlt
        clear hx hr hh hgx hbz
        go_wp2_with (first
          | (go_at_call 33; refine (HGT.out _ (hE.out.trans (by (repeat (with_reducible (first | exact Ext.refl _ | assumption | exact held_left (by assumption) | apply Ext.drewN | apply Ext.drew | apply Ext.alloc | (refine Ext.setCell ?_ (by first | (simp; done) | (simp; omega) | omega) _) | (refine Ext.trans ?_ (by assumption)) | (refine Ext.trans ?_ (held_left (by assumption))))))))).mono ?_; rintro e w7 ⟨⟨r7, a7, c7⟩, rfl, hr7, ho7, hb7⟩; simp only at hr7; subst hr7; have HO7 := Hid.mk' ho7; have HB7 : Hid (Ext wr w7) := Hid.mk' (by (repeat (with_reducible (first | exact Ext.refl _ | assumption | exact held_left (by assumption) | apply Ext.drewN | apply Ext.drew | apply Ext.alloc | (refine Ext.setCell ?_ (by first | (simp; done) | (simp; omega) | omega) _) | (refine Ext.trans ?_ (by assumption)) | (refine Ext.trans ?_ (held_left (by assumption))))))); clear ho7; try simp only)
          | (go_at_call 25; refine (cadd_any w.heap.size w.heap.size c' qs (⟨r7, a7, c7⟩ : RR) _ (hca.out.ext (HB7.out.trans (by (repeat (with_reducible (first | exact Ext.refl _ | assumption | exact held_left (by assumption) | apply Ext.drewN | apply Ext.drew | apply Ext.alloc | (refine Ext.setCell ?_ (by first | (simp; done) | (simp; omega) | omega) _) | (refine Ext.trans ?_ (by assumption)) | (refine Ext.trans ?_ (held_left (by assumption))))))))) (RR.in.ext HO7.out.in (by (repeat (with_reducible (first | exact Ext.refl _ | assumption | exact held_left (by assumption) | apply Ext.drewN | apply Ext.drew | apply Ext.alloc | (refine Ext.setCell ?_ (by first | (simp; done) | (simp; omega) | omega) _) | (refine Ext.trans ?_ (by assumption)) | (refine Ext.trans ?_ (held_left (by assumption)))))))) HO7.out.cap HXW.out).mono ?_; rintro e w8 ⟨c8, q8, rfl, hqr, hc8, hkp, hnew⟩; have HC8 := Hid.mk' hc8; have HQR := Hid.mk' hqr; have HE8 := Hid.mk' (Kp.ext (show Ext w _ from hE.out.trans (HB7.out.trans (by (repeat (with_reducible (first | exact Ext.refl _ | assumption | exact held_left (by assumption) | apply Ext.drewN | apply Ext.drew | apply Ext.alloc | (refine Ext.setCell ?_ (by first | (simp; done) | (simp; omega) | omega) _) | (refine Ext.trans ?_ (by assumption)) | (refine Ext.trans ?_ (held_left (by assumption))))))))) (fun x hx _ => HSG.out x hx) hkp); have HS8 := Hid.mk' (Sl.kp (hSl.out.ext (HB7.out.trans (by (repeat (with_reducible (first | exact Ext.refl _ | assumption | exact held_left (by assumption) | apply Ext.drewN | apply Ext.drew | apply Ext.alloc | (refine Ext.setCell ?_ (by first | (simp; done) | (simp; omega) | omega) _) | (refine Ext.trans ?_ (by assumption)) | (refine Ext.trans ?_ (held_left (by assumption))))))))) hkp (fun _ b1 o1 e1 => by injection e1 with e1; injection e1 with e1 _ _; subst e1; exact refs_apart HBZ.out HBW.out hown.out)); have HW8 := Hid.mk' (own_grow hnew hown.out (Nat.le_trans hsz.out (Ext.size (HB7.out.trans (by (repeat (with_reducible (first | exact Ext.refl _ | assumption | exact held_left (by assumption) | apply Ext.drewN | apply Ext.drew | apply Ext.alloc | (refine Ext.setCell ?_ (by first | (simp; done) | (simp; omega) | omega) _) | (refine Ext.trans ?_ (by assumption)) | (refine Ext.trans ?_ (held_left (by assumption))))))))))); have HZ8 := Hid.mk' (Nat.le_trans (Nat.le_trans hsz.out (show Ext wr _ from HB7.out.trans (by (repeat (with_reducible (first | exact Ext.refl _ | assumption | exact held_left (by assumption) | apply Ext.drewN | apply Ext.drew | apply Ext.alloc | (refine Ext.setCell ?_ (by first | (simp; done) | (simp; omega) | omega) _) | (refine Ext.trans ?_ (by assumption)) | (refine Ext.trans ?_ (held_left (by assumption)))))))).size) hkp.size); clear hc8 hqr hkp hnew))
        go_roundg (rs.length - (k + 1))
        case measure => have := HLT.out; omega
        case rel => exact ⟨k + 1, c8, _, Nat.sub_add_cancel HLT.out, by go_num, HC8, Hid.mk' (by rw [addP_r, hqs.out, HQR.out]; exact HST.out), HW8, HZ8, HE8, HS8⟩
    · obtain rfl : k = rs.length := by omega
      go_wp2
      go_ret
      exact ⟨rfl, ⟨c', qs, hca.out, by rw [hqs.out, List.take_length]⟩, hE.out⟩

end Go.Proofs.YthdjinicmnhgpaaGreatDoor

/-
Append of any row, nil or not, to what a call owns.
-/
namespace Go.Proofs.YthdjinicmnhgpaaGreatDoor
open Go.RowKit

theorem run_app_nil {P : Program} {w : World} (base : Nat) (t ty e : TypeId) (i : TypeInfo) (size : Nat) (ht : P.underlying t = some (.slice e)) (hi : P.info? e = some i)
    (v : Value) (n : Nat) (xs : List Value) (hown : w.ownsRow base e size v n xs) (c : Nat) : (Builtin.append_ #[t, t] ty #[v, .slice none 0 c]).run P w = .ok v w := by
  rcases hown.2 with ⟨rfl, rfl⟩ | ⟨g, cap, cur, rfl, _, _, hnc, _⟩
  · simp [Builtin.append_, run_underlying ht, sizeOf, typeInfo, hi, Builtin.lenOf, Builtin.firstCells]
  · simp [Builtin.append_, run_underlying ht, sizeOf, typeInfo, hi, Builtin.lenOf, Builtin.firstCells, hnc, storeCells]
theorem news_sl {w : World} {b o k : Nat} {xss : List (List Value)} (hk0 : 0 < k) (hk : ∀ ys ∈ xss, ys.length = k) (h : ∀ i, i < xss.length → ∀ j, j < k → w.cell? ⟨b, o + i * k + j, none⟩ = (xss.getD i [])[j]?) :
    ∀ j u, xss.flatten[j]? = some u → w.cell? ((⟨b, o, none⟩ : Addr).add j) = some u := by
  intro j u hj
  have hjl : j < xss.length * k := by
    rcases Nat.lt_or_ge j (xss.length * k) with h | h
    · exact h
    · rw [List.getElem?_eq_none (by rw [flat_length k xss hk]; exact h)] at hj; cases hj
  have hplain : (⟨b, o, none⟩ : Addr).add j = ⟨b, o + j, none⟩ := by unfold Addr.add; split <;> simp_all
  have hi : j / k < xss.length := (Nat.div_lt_iff_lt_mul hk0).2 hjl
  have hq := flat_get k xss hk (j / k) hi (j % k) (Nat.mod_lt _ hk0)
  have hm : j / k * k + j % k = j := by rw [Nat.mul_comm]; exact Nat.div_add_mod j k
  rw [hm] at hq
  rw [hplain, ← hj, hq, ← h (j / k) hi (j % k) (Nat.mod_lt _ hk0), Nat.add_assoc, hm]

set_option maxRecDepth 20000 in
theorem wpList_append_sl {P : Program} {w : World} {ops : Array Oper} {rest : List Oper} {o : Oper} {a : Act} {Q : Exit → Act → World → Prop} (hgd : o.guard = none) (s x : Operand) (t : TypeId)
    (ho : o.op = .call { callee := .builtin .append, args := #[s, x], argTypes := #[t, t] })
    (base : Nat) (e : TypeId) (i : TypeInfo) (z : Value) (size bytes : Nat) (ht : P.underlying t = some (.slice e)) (hi : P.info? e = some i) (hz : i.zero = some z)
    (hsize : i.size = size) (hby : i.bytes = bytes) (hzs : z.cells.size = size) (hsz : 0 < size)
    (v : Value) (n : Nat) (xs : List Value) (hs : a.eval s = v) (hown : w.ownsRow base e size v n xs) (u : Value) (xss : List (List Value)) (hx : a.eval x = u) (hu : Sl w u size xss)
    (hk : ∀ ys ∈ xss, ys.length = size) (h1 : ∀ y ∈ xss.flatten, y.oneCell' = true) (h63 : n + xss.length ≤ maxLen) (hbytes : (n + xss.length) * bytes ≤ 140737488355328) (hbase : base ≤ w.heap.size)
    (h : ∀ v' w', w'.ownsRow base e size v' (n + xss.length) (xs ++ xss.flatten) → w.grownBy w' v.ownBlock → (v'.ownBlock = v.ownBlock ∨ v'.ownBlock = some w.heap.size) → wpList P ops Q rest (a.put o.dst v') w') : wpList P ops Q (o :: rest) a w := by
  obtain ⟨A, cap, rfl, hcs⟩ := hu
  have key : ∃ v' w', (Builtin.append_ #[t, t] o.type #[v, .slice A xss.length cap]).run P w = .ok v' w' ∧ w'.ownsRow base e size v' (n + xss.length) (xs ++ xss.flatten) ∧ w.grownBy w' v.ownBlock ∧ (v'.ownBlock = v.ownBlock ∨ v'.ownBlock = some w.heap.size) := by
    rcases A with _ | ad
    · have h0 : xss = [] := by
        rcases hcs with h | ⟨b, o, e, _⟩
        · exact h
        · cases e
      subst h0
      exact ⟨v, w, run_app_nil base t o.type e i size ht hi v n xs hown cap, by simpa using hown, ⟨rfl, rfl, rfl, Nat.le_refl _, fun _ _ _ => rfl⟩, .inl rfl⟩
    · have hn : ∀ j u, xss.flatten[j]? = some u → w.cell? (ad.add j) = some u := by
        rcases hcs with h | ⟨b, o', e', _, hc⟩
        · subst h; intro j u hj; simp at hj
        · cases e'
          exact news_sl hsz hk hc
      obtain ⟨v', w', hr, h2, h3, _, h5⟩ := run_append_own_at (P := P) w base t o.type e i z size bytes ht hi hz hsize hby hzs hsz v n xs hown ad xss.length cap xss.flatten (flat_length size xss hk) hn h1 h63 hbytes hbase
      exact ⟨v', w', hr, h2, h3, h5⟩
  obtain ⟨v', w', hrun, h2, h3, h4⟩ := key
  refine wpList_plain hgd fun K hK => ?_
  unfold Oper.wp execOp
  simp only [ho, resolve, invoke, builtin, Sem.run_bind, Sem.run_pure, Result.andThen_ok, List.map_toArray, List.map_cons, List.map_nil, hs, hx, hrun]
  exact hK _ _ (h v' w' h2 h3 h4)

end Go.Proofs.YthdjinicmnhgpaaGreatDoor

/-
The relations that transactions use alone: the reference's answer.
-/
namespace Go.Proofs.YthdjinicmnhgpaaGreatDoor
open Go.RowKit

/-- Those of a catalog. -/
def known (l : List Rl) (rs : List Rf) : List Rf := rs.filter (fun r => hasR r.o r.v l)
theorem known_all {l : List Rl} {rs : List Rf} : ∀ k (h : k < (known l rs).length), hasR (known l rs)[k].o (known l rs)[k].v l = true := fun k h => (List.mem_filter.1 (List.getElem_mem h)).2
theorem known_yes {l : List Rl} {rs : List Rf} {k : Nat} (hk : k < rs.length) (h : hasR rs[k].o rs[k].v l = true) : known l (rs.take (k + 1)) = known l (rs.take k) ++ [rs[k]] := by
  rw [List.take_succ_eq_append_getElem hk]
  unfold known
  rw [List.filter_append, List.filter_cons, if_pos h, List.filter_nil]
theorem known_no {l : List Rl} {rs : List Rf} {k : Nat} (hk : k < rs.length) (h : hasR rs[k].o rs[k].v l = false) : known l (rs.take (k + 1)) = known l (rs.take k) := by
  rw [List.take_succ_eq_append_getElem hk]
  unfold known
  rw [List.filter_append, List.filter_cons, if_neg (by rw [h]; simp), List.filter_nil, List.append_nil]
theorem known_refs {l : List Rl} {rs : List Rf} : l.filter (ofRefs (known l rs)) = l.filter (ofRefs rs) := by
  refine List.filter_congr (fun r hr => ?_)
  rw [Bool.eq_iff_iff]
  unfold ofRefs
  rw [List.any_eq_true, List.any_eq_true]
  constructor
  · rintro ⟨x, hx, h⟩
    exact ⟨x, (List.mem_filter.1 hx).1, h⟩
  · rintro ⟨x, hx, h⟩
    exact ⟨x, List.mem_filter.2 ⟨hx, List.any_eq_true.2 ⟨r, hr, h⟩⟩, h⟩
def refOf (r : Rl) : Rf := ⟨r.oid, r.ver⟩
theorem known_len {l : List Rl} {rs : List Rf} (hn : rs.Nodup) : (known l rs).length ≤ l.length := by
  have h := len_sub (l := known l rs) (m := l.map refOf) (List.Nodup.sublist List.filter_sublist hn) (fun x hx => by
    have h1 := (List.mem_filter.1 hx).2
    unfold hasR at h1
    rw [List.any_eq_true] at h1
    obtain ⟨r, hr, hi⟩ := h1
    unfold isR at hi
    have h2 := of_decide_eq_true hi
    refine List.mem_map.2 ⟨r, hr, ?_⟩
    obtain ⟨o, v⟩ := x
    simp only at h2
    unfold refOf
    rw [h2.1, h2.2])
  rwa [List.length_map] at h

set_option maxRecDepth 100000 in set_option maxHeartbeats 4000000 in
theorem ronly14_any (ps : List RR) (a : Option Addr) (cap : Nat) (ts : List TL) (ta : Option Addr) (tc : Nat) (w : World) (hl : RL w (.slice a ps.length cap) ps) (hlen : ps.length ≤ 1000) (ht : TS 6 K.rc w (.slice ta ts.length tc) ts) (hn : ts.length ≤ 1000) (h1 : ∀ t ∈ ts, t.es.length ≤ 1000) (h2 : ∀ t ∈ ts, ∀ e ∈ t.es, e.e.rs.length ≤ 1000) (hu : (usedL (ts.map TL.t)).length ≤ 1000000000) :
    Calls Tryz.prog 18 #[.slice a ps.length cap, .slice ta ts.length tc] w fun e w' => ∃ (a' : Option Addr) (n c' : Nat) (q : List RR), e = .returned (.slice a' n c') ∧ n = q.length ∧ RL w' (.slice a' n c') q ∧ q.map RR.r = (ps.map RR.r).filter (ofRefs (usedL (ts.map TL.t))) ∧ (∀ p ∈ q, p ∈ ps) ∧ Ext w w' := by
  obtain ⟨i0, hi, hz0, hz1, hz2⟩ := info_parts Tryz.infoRRfP
  have HL := Hid.mk' hl
  have HUS := Hid.mk' (fun W (h : Ext w W) => rused_any ts ta tc W (ht.ext h) hn h1 h2)
  have HND := Hid.mk' (usedL_rise (ts.map TL.t)).nodup
  obtain ⟨rs, hrs⟩ : ∃ rs, rs = usedL (ts.map TL.t) := ⟨_, rfl⟩
  rw [← hrs] at HUS hu HND ⊢
  obtain ⟨LC, hLC⟩ : ∃ LC, LC = ps.map RR.r := ⟨_, rfl⟩
  have HLC := Hid.mk' hLC
  rw [← hLC]
  have HKN : Hid ((known LC rs).length ≤ 1000) := Hid.mk' (by
    have h := known_len (l := LC) HND.out
    rw [hLC, List.length_map] at h
    rw [hLC]; omega)
  have HKL := Hid.mk' (fun (k : Nat) => (show (known LC (rs.take k)).length ≤ 1000000000 from by
    have h : (known LC (rs.take k)).length ≤ (rs.take k).length := List.length_filter_le _ _
    rw [List.length_take] at h; omega))
  clear hl ht h1 h2 hrs hLC
  go_enter Tryz.func18, Tryz.ntmps18
  go_wp2_with (go_at_call 38; refine (HUS.out _ (by (repeat (with_reducible (first | exact Ext.refl _ | assumption | exact held_left (by assumption) | apply Ext.drewN | apply Ext.drew | apply Ext.alloc | (refine Ext.setCell ?_ (by first | (simp; done) | (simp; omega) | omega) _) | (refine Ext.trans ?_ (by assumption)) | (refine Ext.trans ?_ (held_left (by assumption)))))))).mono ?_; rintro e w2 ⟨a2, n2, c2, rfl, rfl, hs2, hb2⟩; have HR := Hid.mk' hs2; have HE2 : Hid (Ext w w2) := Hid.mk' hb2; clear hs2 hb2)
  go_loopg [5, 7] rs.length (fun z v i wr => ∃ (k : Nat), z + k = rs.length ∧ i = .int .i64 k ∧ Hid (wr.ownsRow w2.heap.size 56 2 v (known LC (rs.take k)).length ((known LC (rs.take k)).map Rf.cells).flatten) ∧ Hid (Ext w2 wr))
  case atStart => exact ⟨0, by omega, rfl, Hid.mk' (World.ownsRow_nil _ _ _ _), Hid.mk' (Ext.refl _)⟩
  case round =>
    obtain ⟨k, hzk, rfl, hown, hE⟩ := hrel
    by_cases hlt : k < rs.length
    · obtain ⟨b, o, rfl, hb, hx⟩ := HR.out.at_ (i := k) (by simpa using hlt)
      have HF := Hid.mk' (fun W (h : Ext w2 W) => Rf.at_ hlt hx hb h)
      have HBW := Hid.mk' hb
      obtain ⟨f0, f1⟩ := HF.out wr hE.out
      have hbw : b < wr.heap.size := Nat.lt_of_lt_of_le hb hE.out.size
      have hd1 : decide (rs.length ≤ k) = false := decide_eq_false (by omega)
      have hd2 : decide ((rs.length : Int) ≤ (k : Int)) = false := decide_eq_false (by omega)
      have HKL1 := HKL.out k
      cases hh : hasR rs[k].o rs[k].v LC with
      | false =>
        have HST := Hid.mk' (known_no hlt hh)
        rw [HLC.out] at hh
        have HGT := Hid.mk' (fun W (h : Ext w W) => rget_no (HL.out.ext h) hlen hh)
        obtain ⟨r, hr⟩ : ∃ r, r = rs[k] := ⟨_, rfl⟩
        rw [← hr] at f0 f1 HGT HF
        have HLT : Hid (k < rs.length) := Hid.mk' hlt
        clear hx hr hb hh
        go_wp2_with (go_at_call 39; refine (HGT.out _ (HE2.out.trans (hE.out.trans (by (repeat (with_reducible (first | exact Ext.refl _ | assumption | exact held_left (by assumption) | apply Ext.drewN | apply Ext.drew | apply Ext.alloc | (refine Ext.setCell ?_ (by first | (simp; done) | (simp; omega) | omega) _) | (refine Ext.trans ?_ (by assumption)) | (refine Ext.trans ?_ (held_left (by assumption)))))))))).mono ?_; rintro e w7 ⟨rfl, hb7⟩; have HE7 : Hid (Ext wr w7) := Hid.mk' (by (repeat (with_reducible (first | exact Ext.refl _ | assumption | exact held_left (by assumption) | apply Ext.drewN | apply Ext.drew | apply Ext.alloc | (refine Ext.setCell ?_ (by first | (simp; done) | (simp; omega) | omega) _) | (refine Ext.trans ?_ (by assumption)) | (refine Ext.trans ?_ (held_left (by assumption))))))); clear hb7)
        go_roundg (rs.length - (k + 1))
        case measure => have := HLT.out; omega
        case rel => exact ⟨k + 1, Nat.sub_add_cancel HLT.out, by go_num, Hid.mk' (by rw [HST.out]; exact owns_ext hown.out (HE7.out.trans (by (repeat (with_reducible (first | exact Ext.refl _ | assumption | exact held_left (by assumption) | apply Ext.drewN | apply Ext.drew | apply Ext.alloc | (refine Ext.setCell ?_ (by first | (simp; done) | (simp; omega) | omega) _) | (refine Ext.trans ?_ (by assumption)) | (refine Ext.trans ?_ (held_left (by assumption))))))))), Hid.mk' (hE.out.trans (HE7.out.trans (by (repeat (with_reducible (first | exact Ext.refl _ | assumption | exact held_left (by assumption) | apply Ext.drewN | apply Ext.drew | apply Ext.alloc | (refine Ext.setCell ?_ (by first | (simp; done) | (simp; omega) | omega) _) | (refine Ext.trans ?_ (by assumption)) | (refine Ext.trans ?_ (held_left (by assumption)))))))))⟩
      | true =>
        have HST := Hid.mk' (known_yes hlt hh)
        rw [HLC.out] at hh
        have HGT := Hid.mk' (fun W (h : Ext w W) => rget_yes (HL.out.ext h) hlen hh)
        obtain ⟨r, hr⟩ : ∃ r, r = rs[k] := ⟨_, rfl⟩
        rw [← hr] at f0 f1 HGT HF HST
        have HLT : Hid (k < rs.length) := Hid.mk' hlt
        clear hx hr hb hh
        go_upto_region 7 with (go_at_call 39; refine (HGT.out _ (HE2.out.trans (hE.out.trans (by (repeat (with_reducible (first | exact Ext.refl _ | assumption | exact held_left (by assumption) | apply Ext.drewN | apply Ext.drew | apply Ext.alloc | (refine Ext.setCell ?_ (by first | (simp; done) | (simp; omega) | omega) _) | (refine Ext.trans ?_ (by assumption)) | (refine Ext.trans ?_ (held_left (by assumption)))))))))).mono ?_; rintro e w7 ⟨cs, rfl, ⟨p, hp, rfl, hg⟩, hb7⟩; have HE7 : Hid (Ext wr w7) := Hid.mk' (by (repeat (with_reducible (first | exact Ext.refl _ | assumption | exact held_left (by assumption) | apply Ext.drewN | apply Ext.drew | apply Ext.alloc | (refine Ext.setCell ?_ (by first | (simp; done) | (simp; omega) | omega) _) | (refine Ext.trans ?_ (by assumption)) | (refine Ext.trans ?_ (held_left (by assumption))))))); clear hb7 hg hp)
        obtain ⟨⟨oid, ver, nm, id, cols⟩, pa, pc⟩ := p
        simp only
        obtain ⟨W8, hW8⟩ : ∃ W8, W8 = w7.alloc (.cells #[.int .u32 oid, .int .u32 ver, .string nm, .int .u8 id, .slice pa cols.length pc] 59) := ⟨_, rfl⟩
        have HE8 : Hid (Ext wr W8) := Hid.mk' (by rw [hW8]; exact HE7.out.alloc _)
        rw [← hW8]
        clear hW8 f0 f1 hbw
        obtain ⟨f0, f1⟩ := HF.out W8 (hE.out.trans HE8.out)
        have hbw : b < W8.heap.size := Nat.lt_of_lt_of_le HBW.out (hE.out.trans HE8.out).size
        have HSN := Hid.mk' (Sl.new W8 #[.int .u32 r.o, .int .u32 r.v] 56 2 1 1 [[.int .u32 r.o, .int .u32 r.v]] rfl (by intro xs hxs; simp at hxs; subst hxs; rfl) rfl)
        have HOW8 : Hid ((W8.alloc (.cells #[.int .u32 r.o, .int .u32 r.v] 56)).ownsRow w2.heap.size 56 2 _ (known LC (rs.take k)).length ((known LC (rs.take k)).map Rf.cells).flatten) := Hid.mk' (owns_ext hown.out (HE8.out.alloc _))
        go_wp2_with (at_builtin; refine wpList_append_sl rfl _ _ 65 rfl w2.heap.size 56 i0 _ 2 8 Tryz.underlying65 hi hz0 hz1 hz2 rfl (by decide) _ (known LC (rs.take k)).length _ rfl HOW8.out _ [[.int .u32 r.o, .int .u32 r.v]] rfl HSN.out ?c0 ?c1 ?c2 ?c3 ?c4 ?_)
        case c0 => intro ys hys; simp at hys; subst hys; rfl
        case c1 => intro y hy; simp at hy; rcases hy with rfl | rfl <;> rfl
        case c2 => unfold maxLen; simp; omega
        case c3 => simp; omega
        case c4 => have := (hE.out.trans (HE8.out.alloc (.cells #[.int .u32 r.o, .int .u32 r.v] 56))).size; omega
        intro v10 w10 hown10 hg10 _
        have HO10 : Hid (w10.ownsRow w2.heap.size 56 2 v10 (known LC (rs.take (k + 1))).length ((known LC (rs.take (k + 1))).map Rf.cells).flatten) := Hid.mk' (by
          rw [HST.out, List.length_append, List.map_append, List.flatten_append]
          simpa [Rf.cells] using hown10)
        have HE10 : Hid (Ext w2 w10) := Hid.mk' (Ext.grown (hE.out.trans (HE8.out.alloc _)) HOW8.out hg10)
        clear hown10 hg10
        go_wp2
        go_roundg (rs.length - (k + 1))
        case measure => have := HLT.out; omega
        case rel => exact ⟨k + 1, Nat.sub_add_cancel HLT.out, by go_num, HO10, HE10⟩
    · obtain rfl : k = rs.length := by omega
      rw [List.take_length] at hown
      obtain ⟨a5, c5, rfl⟩ := owns_shape hown.out
      have HRO := Hid.mk' (ronly_any ps (known LC rs) a cap a5 c5 wr (HL.out.ext (HE2.out.trans hE.out)) (Sl.of_owns (base := w2.heap.size) (e := 56) (by rw [List.length_map]; exact hown.out) (by intro xs hxs; simp at hxs; obtain ⟨_, _, rfl⟩ := hxs; rfl)) hlen HKN.out)
      go_wp2_with (go_at_call 40; refine HRO.out.mono ?_; rintro e w9 ⟨⟨a9, n9, c9, rfl, hq⟩, hb9⟩; have HQ := Hid.mk' hq; have HB9 := Hid.mk' hb9; clear hq hb9)
      go_ret
      obtain rfl := HLC.out
      have h9 := HQ.out (onlyE_yes known_all)
      exact ⟨a9, n9, c9, flt (known (ps.map RR.r) rs) ps, rfl, h9.1, h9.2, by rw [flt_r, known_refs], fun p hp => flt_mem hp, HE2.out.trans (hE.out.trans HB9.out)⟩

end Go.Proofs.YthdjinicmnhgpaaGreatDoor


/-
The awake of the laws of events.
-/
namespace Go.Proofs.YthdjinicmnhgpaaGreatDoor
open Go.RowKit

def aw13 (o : Int) : Rl := ⟨o, 1, ⟨#[116]⟩, 0, [⟨⟨#[97]⟩, 1, false⟩]⟩
theorem aw13_up : ofUp [aw13 1, aw13 2] 2 = [aw13 1, aw13 2] := by rfl
theorem aw13_ofE : ofE [aw13 1, aw13 2] = 0 := by decide
theorem aw13_ofPl : ofPl [aw13 1, aw13 2] = 2 := by decide
theorem aw13_wb (v : Int) : (aw13 v).wb := ⟨by show 1 ≤ 9223372036854775807; omega, by intro c hc; simp [aw13] at hc; subst hc; show 1 ≤ 9223372036854775807; omega, by show 1 ≤ 5864062014634; omega, Int.le_refl 0⟩
theorem aw13_own (rs : List Rf) : ownB ⟨7, 0, 0, 0, [], [], rs, 0⟩ = true := (own_trunc (e := ⟨7, 0, 0, 0, [], [], rs, 0⟩) rfl).2 ⟨rfB_true.2 rfl, rfl, rfl, rfl⟩
theorem aw13_small {rs : List Rf} (h : rs.length ≤ 1000) : Ev.small ⟨7, 0, 0, 0, [], [], rs, 0⟩ := ⟨Nat.zero_le _, Nat.zero_le _, h⟩
theorem aw13_wk (rs : List Rf) : Ev.wk ⟨7, 0, 0, 0, [], [], rs, 0⟩ := ⟨(fun c hc => by cases hc), (fun c hc => by cases hc), Int.le_refl 0⟩
theorem aw13_e1 : evE (⟨7, 0, 0, 0, [], [], [⟨2, 1⟩, ⟨1, 1⟩], 0⟩ : Ev) [aw13 1, aw13 2] = 15 := by
  unfold evE
  rw [if_neg (by simp only; omega), if_neg (by rw [aw13_own]; simp), if_pos rfl]
  unfold truncE
  rw [if_neg (by simp), if_pos (risB_no (i := 0) (by simp) (by decide))]
theorem aw13_e2 : evE (⟨7, 0, 0, 0, [], [], [⟨1, 1⟩, ⟨2, 1⟩], 0⟩ : Ev) [aw13 1, aw13 2] = 0 := by
  unfold evE
  rw [if_neg (by simp only; omega), if_neg (by rw [aw13_own]; simp), if_pos rfl]
  unfold truncE
  rw [if_neg (by simp), if_neg (by
    rw [risB_true.2 (fun i h => by
      obtain rfl : i = 0 := by simp at h; omega
      show aheadB 1 1 2 1 = true
      decide)]
    simp), if_neg (by decide), if_neg (by simp only; omega)]

end Go.Proofs.YthdjinicmnhgpaaGreatDoor


/-
The walk of EventUsed.
-/
namespace Go.Proofs.YthdjinicmnhgpaaGreatDoor
open Go.RowKit

theorem Tryz.infoTxD : (Tryz.prog.info? 63).map (fun i => (i.zero, i.size, i.bytes)) = some (some (.agg #[.int .u32 0, .int .u64 0, .slice none 0 0]), 3, 40) := by kernel_rfl
/-- One is in a list. -/
noncomputable def inB (l : List Rf) (r : Rf) : Bool := @decide (r ∈ l) (Classical.propDecidable _)
theorem inB_true {l : List Rf} {r : Rf} : inB l r = true ↔ r ∈ l := by unfold inB; simp
theorem inB_false {l : List Rf} {r : Rf} : inB l r = false ↔ ¬ r ∈ l := by unfold inB; simp
theorem inB_snoc {l : List Rf} {x r : Rf} : inB (l ++ [x]) r = (inB l r || rfB x r) := by
  rw [Bool.eq_iff_iff, inB_true, Bool.or_eq_true, inB_true, rfB_true, List.mem_append, List.mem_singleton]
  constructor
  · rintro (h | h)
    · exact .inl h
    · exact .inr h.symm
  · rintro (h | h)
    · exact .inl h
    · exact .inr h.symm
theorem TL.one (l : List TL) : ∀ u ∈ (l.map TL.vals).flatten, u.oneCell' = true := by
  intro u hu
  rw [List.mem_flatten] at hu
  obtain ⟨xs, hxs, hu⟩ := hu
  rw [List.mem_map] at hxs
  obtain ⟨p, _, rfl⟩ := hxs
  simp [TL.vals] at hu
  rcases hu with rfl | rfl | rfl <;> rfl
theorem OwnT.app {w w' : World} {N N2 : Nat} {xa xb : List Tx} {v1 v2 v' : Value} {qa qb : List TL} (hA : OwnT w N xa v1 qa) (hB : OwnT w N2 xb v2 qb) (hN : ∀ b, v1.ownBlock = some b → b < N2)
    (hg : w.grownBy w' v1.ownBlock) (ho : w'.ownsRow N 78 3 v' (qa.length + qb.length) ((qa.map TL.vals).flatten ++ (qb.map TL.vals).flatten)) : TS 5 K.pc w' v' (qa ++ qb) := by
  refine ⟨Sl.of_owns (base := N) (e := 78) (by rw [List.length_map, List.length_append, List.map_append, List.flatten_append]; exact ho) (TL.len _), fun x hx => ?_⟩
  rcases List.mem_append.1 hx with hx | hx
  · exact (hA.sl x hx).kp (Kp.of_grown hg) ((hA.ne x hx).mono (fun b hb => hb.2))
  · exact (hB.sl x hx).kp (Kp.of_grown hg) ((hB.ne x hx).mono (fun b hb e => by have := hN b e; omega))
theorem Lit.ok {ps : List RR} {ts : List TL} (h : Lit ps ts) : ts.length ≤ 1000 ∧ (∀ t ∈ ts, t.es.length ≤ 1000) ∧ (∀ t ∈ ts, ∀ e ∈ t.es, e.e.small) ∧ ∀ t ∈ ts, ∀ e ∈ t.es, e.e.rs.length ≤ 1000 := by
  refine ⟨by have := h.t; omega, fun t ht => ?_, fun t ht e he => ?_, fun t ht e he => by have := (h.e t ht e he).r; omega⟩
  · obtain ⟨i, hi, rfl⟩ := List.getElem_of_mem ht
    have h1 := manyT_succ hi
    have h2 := manyT_le ts (i + 1)
    have h3 := h.es
    omega
  · have h1 := h.e t ht e he
    exact ⟨by have := h1.b; omega, by have := h1.a; omega, by have := h1.r; omega⟩

theorem usedL_le {ts : List TL} (h0 : ts.length ≤ 1000) (h1 : ∀ t ∈ ts, t.es.length ≤ 1000) (h2 : ∀ t ∈ ts, ∀ e ∈ t.es, e.e.rs.length ≤ 1000) : (usedL (ts.map TL.t)).length ≤ 1000000000 := by
  have h := usesTs_len (M := 1000) (L := 1000) (by decide) (ts := ts.map TL.t) (fun t ht => by
    obtain ⟨x, hx, rfl⟩ := List.mem_map.1 ht
    refine ⟨by show (x.es.map EL.e).length ≤ 1000; rw [List.length_map]; exact h1 x hx, fun e he => ?_⟩
    obtain ⟨y, hy, rfl⟩ := List.mem_map.1 he
    exact h2 x hx y hy)
  have h3 := putL_len (usesTs (ts.map TL.t)) []
  rw [List.length_map] at h
  simp only [List.length_nil] at h3
  unfold usedL
  omega
theorem OwnT.sm {W : World} {N : Nat} {v : Value} {ts qs : List TL} (ho : OwnT W N (ts.map TL.t) v qs) (h1 : ∀ t ∈ ts, t.es.length ≤ 1000) (h2 : ∀ t ∈ ts, ∀ e ∈ t.es, e.e.small) : (∀ t ∈ qs, t.es.length ≤ 1000) ∧ ∀ t ∈ qs, ∀ e ∈ t.es, e.e.small := by
  have h3 : ∀ t ∈ qs, ∃ t2 ∈ ts, t2.es.map EL.e = t.es.map EL.e := fun t ht => by
    have h4 : t.t ∈ ts.map TL.t := by rw [← ho.t]; exact List.mem_map_of_mem ht
    obtain ⟨t2, h5, h6⟩ := List.mem_map.1 h4
    exact ⟨t2, h5, congrArg Tx.es h6⟩
  refine ⟨fun t ht => ?_, fun t ht e he => ?_⟩
  · obtain ⟨t2, h5, h6⟩ := h3 t ht
    have := congrArg List.length h6
    rw [List.length_map, List.length_map] at this
    have := h1 t2 h5
    omega
  · obtain ⟨t2, h5, h6⟩ := h3 t ht
    have h7 : e.e ∈ t2.es.map EL.e := by rw [h6]; exact List.mem_map_of_mem he
    obtain ⟨e2, h8, h9⟩ := List.mem_map.1 h7
    rw [← h9]; exact h2 t2 h5 e2 h8
theorem usedo_any {W0 W : World} {N : Nat} {ts qs : List TL} {a' : Option Addr} {c' : Nat} (ho : OwnT W0 N (ts.map TL.t) (.slice a' ts.length c') qs) (h0 : ts.length ≤ 1000) (h1 : ∀ t ∈ ts, t.es.length ≤ 1000) (h2 : ∀ t ∈ ts, ∀ e ∈ t.es, e.e.small) (h : Ext W0 W) :
    Calls Tryz.prog 32 #[.slice a' ts.length c'] W (fun e w' => ∃ a2 n2 c2, e = .returned (.slice a2 n2 c2) ∧ n2 = (usedL (ts.map TL.t)).length ∧ Sl w' (.slice a2 n2 c2) 2 ((usedL (ts.map TL.t)).map Rf.cells) ∧ (∀ b o, a2 = some ⟨b, o, none⟩ → W.heap.size ≤ b) ∧ Ext W w') := by
  have hl : qs.length = ts.length := by rw [ho.len, List.length_map]
  have h3 := ho.sm h1 h2
  have h4 := used_any qs a' c' W (by rw [hl]; exact (ho.ext h).ts) (by rw [hl]; exact h0) h3.1 h3.2
  rw [hl, ho.t] at h4
  exact h4
/-- Two rows of the call's own, one behind the other: what they use. -/
theorem used2_any {W : World} {la lb qa qb : List TL} {a' : Option Addr} {c' n : Nat} (ht : TS 5 K.pc W (.slice a' n c') (qa ++ qb)) (ha : qa.map TL.t = la.map TL.t) (hb : qb.map TL.t = lb.map TL.t) (hn : n = la.length + lb.length) (hsz : la.length + lb.length ≤ 1000)
    (h1 : (∀ t ∈ qa, t.es.length ≤ 1000) ∧ ∀ t ∈ qa, ∀ e ∈ t.es, e.e.small) (h2 : (∀ t ∈ qb, t.es.length ≤ 1000) ∧ ∀ t ∈ qb, ∀ e ∈ t.es, e.e.small) :
    Calls Tryz.prog 32 #[.slice a' n c'] W (fun e w' => ∃ a2 n2 c2, e = .returned (.slice a2 n2 c2) ∧ n2 = (usedL (la.map TL.t ++ lb.map TL.t)).length ∧ Sl w' (.slice a2 n2 c2) 2 ((usedL (la.map TL.t ++ lb.map TL.t)).map Rf.cells) ∧ Ext W w') := by
  have e1 : qa.length = la.length := by have := congrArg List.length ha; simpa using this
  have e2 : qb.length = lb.length := by have := congrArg List.length hb; simpa using this
  have e3 : n = (qa ++ qb).length := by rw [List.length_append]; omega
  subst e3
  have h := used_any (qa ++ qb) a' c' W ht (by rw [List.length_append]; omega) (fun t ht => (List.mem_append.1 ht).elim (h1.1 t) (h2.1 t)) (fun t ht => (List.mem_append.1 ht).elim (h1.2 t) (h2.2 t))
  rw [List.map_append, ha, hb] at h
  exact h.mono fun e w' ⟨a2, n2, c2, p1, p2, p3, _, p5⟩ => ⟨a2, n2, c2, p1, p2, p3, p5⟩

end Go.Proofs.YthdjinicmnhgpaaGreatDoor

/-
The walk of FitChecks.
-/
namespace Go.Proofs.YthdjinicmnhgpaaGreatDoor
open Go.RowKit

theorem OwnT.wk14 {W : World} {N : Nat} {v : Value} {ts qs : List TL} (ho : OwnT W N (ts.map TL.t) v qs) (h2 : ∀ t ∈ ts, ∀ e ∈ t.es, e.e.wk) : ∀ t ∈ qs, ∀ e ∈ t.es, e.e.wk := by
  intro t ht e he
  have h4 : t.t ∈ ts.map TL.t := by rw [← ho.t]; exact List.mem_map_of_mem ht
  obtain ⟨t2, h5, h6⟩ := List.mem_map.1 h4
  have h7 : e.e ∈ t2.es.map EL.e := by rw [show t2.es.map EL.e = t.es.map EL.e from congrArg Tx.es h6]; exact List.mem_map_of_mem he
  obtain ⟨e2, h8, h9⟩ := List.mem_map.1 h7
  rw [← h9]; exact h2 t2 h5 e2 h8

set_option maxRecDepth 100000 in set_option maxHeartbeats 8000000 in
theorem fitchecks_law (ps : List RR) (a : Option Addr) (cap : Nat) (ts : List TL) (ta : Option Addr) (tc : Nat) (w : World) (hT : Tab w) (hN : Non w) (hl : RL w (.slice a ps.length cap) ps) (hb : ∀ p ∈ ps, p.r.wb) (hlen : ps.length ≤ 9223372036854775807) (ht : TS 6 K.rc w (.slice ta ts.length tc) ts) (hnt : ts.length ≤ 9223372036854775807) (hz : ∀ p ∈ ts, p.sz) :
    Calls Tryz.prog 3 #[.slice a ps.length cap, .slice ta ts.length tc] w fun e w' => e = .returned (.bool true) ∧ Ext w w' := by
  have HB := Hid.mk' hb
  have HL := Hid.mk' hl
  have HT := Hid.mk' ht
  have HZ := Hid.mk' hz
  have HTB := Hid.mk' hT
  have HNN := Hid.mk' hN
  have HGR := Hid.mk' (fun W (h : Ext w W) => greatT_any ps ts a ta cap tc W (hl.ext h) (ht.ext h) hlen hnt hb hz)
  have HRA := Hid.mk' (fun W (h : Ext w W) => rof_any ps a cap W (hl.ext h) hb hlen)
  unfold ROfPost at HRA
  obtain ⟨EA, hEA⟩ : ∃ E, E = ofE (ps.map RR.r) := ⟨_, rfl⟩
  obtain ⟨NA, hNA⟩ : ∃ E, E = ofPl (ps.map RR.r) := ⟨_, rfl⟩
  rw [← hEA, ← hNA] at HRA
  have HEA := Hid.mk' hEA
  have HNA := Hid.mk' hNA
  clear hl hb ht hz hEA hNA hlen hnt hT hN
  by_cases hA : EA = 0
  case neg =>
    have hA1 : (EA != 0) = true := by simpa using hA
    clear hA
    go_enter Tryz.func3, Tryz.ntmps3
    go_upto_region 2 with (go_at_call 5; refine (HRA.out _ (Ext.refl _)).mono ?_; rintro e w1 ⟨aw, cw, n, rfl, -, -, hb1⟩; have HB1 := Hid.mk' hb1; clear hb1)
    go_wp2_with (go_at_call 6; refine (HGR.out _ HB1.out).mono ?_; rintro e w2 ⟨g, rfl, -, hb2⟩; have HB2 := Hid.mk' (HB1.out.trans hb2); clear hb2; cases g)
    all_goals
      go_ret
      exact ⟨rfl, HB2.out⟩
  subst hA
  go_enter Tryz.func3, Tryz.ntmps3
  go_upto_region 2 with (go_at_call 5; refine (HRA.out _ (Ext.refl _)).mono ?_; rintro e w1 ⟨aw, cw, n, rfl, h1, -, hb1⟩; have HW := Hid.mk' h1; have HB1 := Hid.mk' hb1; clear h1 hb1)
  go_upto_region 4 with (go_at_call 6; refine (HGR.out _ HB1.out).mono ?_; rintro e w2 ⟨g, rfl, hg, hb2⟩; have HG := Hid.mk' hg; have HX2 := Hid.mk' hb2; have HB2 := Hid.mk' (HB1.out.trans hb2); clear hb2 hg; cases g)
  all_goals try (go_ret; exact ⟨rfl, HB2.out⟩)
  have HLT := Hid.mk' (HG.out (by first | exact rfl | exact trivial))
  have HLA := Hid.mk' (HLT.out.ok)
  have hn70 : ps.length ≤ 1000 := by have := HLT.out.n; omega
  have HOA := Hid.mk' (fun W (h : Ext w W) => own9_any ps a cap W (HL.out.ext h) hn70 HB.out)
  clear HG HGR HRA
  go_upto_region 7 with (first
    | (go_at_call 8; refine (HOA.out _ HB2.out).mono ?_; rintro e w3 ⟨a2', c2', qs2, rfl, ho2, hb2⟩; have HB3 := Hid.mk' (HB2.out.trans hb2); have HX3 := Hid.mk' (HX2.out.trans hb2); have HOF := Hid.mk' (cof_any qs2 a2' c2' w3 (by rw [ho2.len]; exact ho2.rl) ho2.cap (ho2.wb HB.out) (by rw [ho2.len]; exact hn70)); rw [ho2.rs, ho2.len] at HOF; unfold COfPost at HOF; rw [← HEA.out, ← HNA.out] at HOF; clear ho2 hb2)
    | (go_at_call 7; refine HOF.out.mono ?_; rintro e w4 ⟨pv, rfl, h1, -, hb3⟩; obtain ⟨rfl, cc, qc, hcc, hqc⟩ := h1 (by first | exact rfl | exact trivial); have HCC := Hid.mk' hcc; have HQC := Hid.mk' hqc; have HB4 := Hid.mk' (HB3.out.trans hb3); have HX4 := Hid.mk' (HX3.out.trans hb3); clear h1 hcc hqc hb3))
  have HTX := Hid.mk' (fun W (h : Ext w W) => txs_any ts ta tc W (HT.out.ext h) HLA.out.1 HLA.out.2.1 HLA.out.2.2.1)
  clear HOF HOA HX2 HX3 HB2
  go_upto_region 8 with (go_at_call 9; refine (HTX.out _ HB4.out).mono ?_; rintro e w5 ⟨a5, c5, qs, rfl, ho5, hb5⟩; have HO5 := Hid.mk' ho5; have HY5 := Hid.mk' hb5; have HB5 := Hid.mk' (HB4.out.trans hb5); have HX5 := Hid.mk' (HX4.out.trans hb5); clear ho5 hb5)
  have HWK : Hid (∀ t ∈ ts, ∀ e ∈ t.es, e.e.wk) := Hid.mk' (fun t ht e he => by have h := (HZ.out t ht).e e he; exact ⟨h.sb, h.sa, h.old.1⟩)
  have HSM5 := Hid.mk' (HO5.out.sm HLA.out.2.1 HLA.out.2.2.1)
  have HWK5 := Hid.mk' (HO5.out.wk14 HWK.out)
  have hql : qs.length = ts.length := by have h := HO5.out.len; rwa [List.length_map] at h
  have HQS : Hid (TS 5 K.pc w5 (.slice a5 ts.length c5) qs) := Hid.mk' HO5.out.ts
  have HQT := Hid.mk' HO5.out.t
  have hlt60 : ts.length ≤ 60 := HLT.out.t
  have HXL : Hid ((usedL (ts.map TL.t)).length ≤ 1000000000) := Hid.mk' (usedL_le HLA.out.1 HLA.out.2.1 HLA.out.2.2.2)
  have HUW : Hid (n = (upP ps ps.length).length ∧ RL w5 (.slice aw n cw) (upP ps ps.length)) := Hid.mk' (by have h := HW.out (by first | exact rfl | exact trivial); exact ⟨h.1, h.2.ext HX5.out⟩)
  obtain ⟨U, hU⟩ : ∃ U, U = upP ps ps.length := ⟨_, rfl⟩
  have hUr : U.map RR.r = qc.map RR.r := by rw [hU, upP_r, HQC.out, List.length_map]
  have hUb : ∀ p ∈ U, p.r.wb := fun p hp => HB.out p (upP_mem (by rw [← hU]; exact hp))
  rw [← hU] at HUW
  obtain ⟨hn, hrl⟩ := HUW.out
  subst hn
  have hC64 : qc.length ≤ 64 := by have h := HCC.out.n64; simpa using h
  have hU64 : U.length ≤ 64 := by have h := congrArg List.length hUr; simp only [List.length_map] at h; omega
  have HCK := Hid.mk' (fun W (h : Ext w5 W) => check_any qs a5 c5 _ _ cc qc W (by rw [hql]; exact HQS.out.ext h) (by rw [hql]; omega) HSM5.out.1 HSM5.out.2 HWK5.out ((HCC.out.ext HY5.out).ext h) ((HNN.out.ext HB5.out).ext h))
  have HFI := Hid.mk' (fun W (h : Ext w5 W) => fitsT_any qs a5 c5 _ _ cc qc W (by rw [hql]; exact HQS.out.ext h) (by rw [hql]; omega) HSM5.out.1 HSM5.out.2 HWK5.out ((HCC.out.ext HY5.out).ext h) ((HNN.out.ext HB5.out).ext h))
  have HRK := Hid.mk' (fun W (h : Ext w5 W) => rcheck_any ts ta tc U aw cw W (HT.out.ext (HB5.out.trans h)) (by omega) HLA.out.2.1 HLA.out.2.2.1 HWK.out (hrl.ext h) ⟨by rw [hUr]; exact HCC.out.ok, hUb⟩)
  have HFO := Hid.mk' (fun W (h : Ext w5 W) => fonly_any qs a5 c5 _ _ cc qc W ((HCC.out.ext HY5.out).ext h) (by rw [hql]; exact HQS.out.ext h) (by rw [hql]; omega) HSM5.out.1 HSM5.out.2 (by rw [HQT.out]; exact HXL.out))
  have HRN := Hid.mk' (fun W (h : Ext w5 W) => ronly14_any U aw cw ts ta tc W (hrl.ext h) (by omega) (HT.out.ext (HB5.out.trans h)) (by omega) HLA.out.2.1 HLA.out.2.2.2 HXL.out)
  have HU16 : Hid (∀ p ∈ U, p.r.cols.length ≤ 9223372036854775807) := Hid.mk' (fun p hp => by
    have h : p.r ∈ qc.map RR.r := by rw [← hUr]; exact List.mem_map_of_mem hp
    have := Rl.cols_le (HCC.out.ok.right _ h)
    omega)
  have HQ16 : Hid (∀ x ∈ qc.map RR.r, x.cols.length ≤ 16) := Hid.mk' (fun x hx => Rl.cols_le (HCC.out.ok.right _ hx))
  rw [HQT.out, hql] at HCK HFI HFO
  rw [hUr] at HRK HRN
  obtain ⟨LC, hLC⟩ : ∃ LC, LC = qc.map RR.r := ⟨_, rfl⟩
  have HLN : Hid (LC.length ≤ 64) := Hid.mk' (by rw [hLC, List.length_map]; exact hC64)
  rw [← hLC] at HCK HFI HRK HFO HRN HQ16
  have hTb := ckT_b (xs := ts.map TL.t) LC (by rw [List.length_map]; omega)
  have hPb := ckP_b (xs := ts.map TL.t) LC (fun t ht => by
    obtain ⟨x, hx, rfl⟩ := List.mem_map.1 ht
    show (x.es.map EL.e).length ≤ 1000
    rw [List.length_map]; exact HLA.out.2.1 x hx)
  have hEb := ckE_sm (ts.map TL.t) LC
  obtain ⟨T, hTT⟩ : ∃ T, T = ckT (ts.map TL.t) LC := ⟨_, rfl⟩
  obtain ⟨P, hPP⟩ : ∃ P, P = ckP (ts.map TL.t) LC := ⟨_, rfl⟩
  obtain ⟨E, hEE⟩ : ∃ E, E = ckE (ts.map TL.t) LC := ⟨_, rfl⟩
  obtain ⟨F, hFF⟩ : ∃ F, F = LC.filter (ofRefs (usedL (ts.map TL.t))) := ⟨_, rfl⟩
  have HF64 : Hid (F.length ≤ 64) := Hid.mk' (by rw [hFF]; exact Nat.le_trans (List.length_filter_le _ _) HLN.out)
  have HF16 : Hid (∀ x ∈ F, x.cols.length ≤ 16) := Hid.mk' (fun x hx => HQ16.out x (by rw [hFF] at hx; exact (List.mem_filter.1 hx).1))
  rw [← hTT] at HCK HRK hTb
  rw [← hPP] at HCK HRK hPb
  rw [← hEE] at HCK HRK HFI hEb
  rw [← hFF] at HFO HRN
  have HFA := Hid.mk' (fun W (h : Ext w W) => fault_any T P E W (by omega) (by omega) (by omega) (by omega) (by have := hEb.1; omega) (by have := hEb.2; omega) (HTB.out.ext h))
  have HRF := Hid.mk' (fun W => rfault_any T P E W (by omega) (by omega) (by omega) (by omega) (by have := hEb.1; omega) (by have := hEb.2; omega))
  have HAW := Hid.mk' (fun W (h : Ext w W) => awake14_any W (HTB.out.ext h) (HNN.out.ext h))
  obtain ⟨TXT, hTXT⟩ : ∃ X, X = txt (faultT T P E) := ⟨_, rfl⟩
  rw [← hTXT] at HFA HRF
  obtain ⟨D, hD⟩ : ∃ D, D = decide (E = 0) := ⟨_, rfl⟩
  rw [← hD] at HFI
  have hD2 : (E == 0) = D := by rw [hD]; rfl
  obtain ⟨X2, hX2⟩ : ∃ X2, X2 = w3.heap.size := ⟨_, rfl⟩
  rw [← hX2] at HCK HFI HFO ⊢
  clear hU hUr hUb hrl HUW HCC HQC HW HLT HB HL HX4 HX5 HY5 HB1 HB3 HB4 HTX HEA HNA hLC hX2 HO5 HZ hql HSM5 HWK5 HWK HLA HQS HQT HXL hTT hPP hEE hFF hTXT hD hTb hPb hEb hn70 HQ16 HLN HTB HNN HT
  go_upto_region 9 with (go_at_call 10; refine (HCK.out _ (Ext.refl _)).mono ?_; rintro e w6 ⟨rfl, hb6⟩; have HE6 := Hid.mk' hb6; clear hb6)
  have HVB : Hid (Blk (w6.alloc (.cells #[.int .i64 T, .int .i64 P, .int .i64 E] 36)) w6.heap.size #[.int .i64 T, .int .i64 P, .int .i64 E] 36) := Hid.mk' (Blk.new _ _ _)
  have HE7 : Hid (Ext w5 (w6.alloc (.cells #[.int .i64 T, .int .i64 P, .int .i64 E] 36))) := Hid.mk' (HE6.out.alloc _)
  obtain ⟨w7, hw7⟩ : ∃ x, x = w6.alloc (.cells #[.int .i64 T, .int .i64 P, .int .i64 E] 36) := ⟨_, rfl⟩
  obtain ⟨X, hX⟩ : ∃ x, x = w6.heap.size := ⟨_, rfl⟩
  rw [← hw7] at HVB HE7 ⊢
  rw [← hX] at HVB ⊢
  clear hw7 hX HE6 HCK
  go_upto_region 10 with (go_at_call 11; refine (HRK.out _ HE7.out).mono ?_; rintro e w8 ⟨rfl, hb8⟩; have HV8 := Hid.mk' (HVB.out.ext hb8); have HE8 := Hid.mk' (HE7.out.trans hb8); clear hb8)
  clear HVB HE7 HRK
  go_upto_region 11 with (first
    | (go_at_call 13; refine (HFO.out _ HE8.out).mono ?_; rintro e w9 ⟨rfl, ⟨c9, q9, hc9, hq9⟩, hb9⟩; have HC9 := Hid.mk' hc9; have HQ9 := Hid.mk' hq9; have HV9 := Hid.mk' (HV8.out.ext hb9); have HE9 := Hid.mk' (HE8.out.trans hb9); have HBK := Hid.mk' (back9_any _ _ c9 q9 _ hc9); clear hb9 hc9 hq9)
    | (go_at_call 12; refine HBK.out.mono ?_; rintro e w10 ⟨a10, c10, q10, rfl, ho10, hb10⟩; have HO10 := Hid.mk' ho10; have HV10 := Hid.mk' (HV9.out.ext hb10); have HE10 := Hid.mk' (HE9.out.trans hb10); clear hb10 ho10))
  have gv := HV10.out.cell
  have zv := HV10.out.lt
  clear HV8 HV9 HE8 HE9 HBK HFO HC9
  go_upto_region 13 with (first
    | (go_at_call 14; refine (HFI.out _ HE10.out).mono ?_; rintro e w11 ⟨rfl, hb11⟩; have HV11 := Hid.mk' (HV10.out.ext hb11); have HX11 := Hid.mk' hb11; have HE11 := Hid.mk' (HE10.out.trans hb11); have gv11 := HV11.out.cell; have zv11 := HV11.out.lt; clear hb11 gv zv)
    | (go_at_call 15; refine (HFA.out _ (HB5.out.trans HE11.out)).mono ?_; rintro e w12 ⟨rfl, hb12⟩; have HX12 := Hid.mk' (HX11.out.trans hb12); have HE12 := Hid.mk' (HE11.out.trans hb12); clear hb12)
    | (go_at_call 16; refine (HRF.out _).mono ?_; rintro e w13 ⟨rfl, rfl⟩))
  have HQL : Hid (q10.length ≤ 1000 ∧ ∀ p ∈ q10, p.r.cols.length ≤ 1000) := Hid.mk' (by
    have h := HO10.out.r
    rw [HQ9.out] at h
    refine ⟨by have h2 := congrArg List.length h; rw [List.length_map] at h2; have := HF64.out; omega, fun p hp => ?_⟩
    have h3 : p.r ∈ F := by rw [← h]; exact List.mem_map_of_mem hp
    have := HF16.out _ h3
    omega)
  go_wp2_with (first
    | (go_at_call 18; refine (HRN.out _ HE12.out).mono ?_; rintro e w14 ⟨a14, n14, c14, q14, rfl, rfl, hr14, hq14, hm14, hb14⟩; have HE14 := Hid.mk' (HE12.out.trans hb14); have HSS := Hid.mk' (fun W (h : Ext w14 W) => rsame9_any q10 q14 a10 a14 c10 c14 W ((HO10.out.rl.ext (HX12.out.trans hb14)).ext h) (hr14.ext h) HQL.out.1 HQL.out.2 (fun p hp => HU16.out p (hm14 p hp))); rw [HO10.out.r, HQ9.out, hq14, rlsB_true.2 rfl] at HSS; clear hr14 hq14 hm14 hb14)
    | (go_at_call 17; refine (HSS.out _ (Ext.refl _)).mono ?_; rintro e w15 ⟨rfl, hb15⟩; have HE15 := Hid.mk' (HE14.out.trans hb15); clear hb15)
    | (go_at_call 19; refine (HAW.out _ (HB5.out.trans HE15.out)).mono ?_; rintro e wk ⟨rfl, hbk⟩))
  go_ret
  exact ⟨rfl, HB5.out.trans (HE15.out.trans hbk)⟩

end Go.Proofs.YthdjinicmnhgpaaGreatDoor
