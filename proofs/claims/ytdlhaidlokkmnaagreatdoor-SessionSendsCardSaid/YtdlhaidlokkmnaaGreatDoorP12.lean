/-
Catalogs, the reference's: Ahead, Get.
-/
import Derived.Test.YtdlhaidlokkmnaaGreatDoorP5
import Derived.Test.YtdlhaidlokkmnaaGreatDoorP11
set_option maxRecDepth 100000
set_option maxHeartbeats 16000000
namespace Go.Proofs.YtdlhaidlokkmnaaGreatDoor
open Go.RowKit
theorem wpHd_takeD {P : Program} {ops : Array Oper} {Q : Exit → Act → World → Prop} {md : Region.Mode} {S : World → Prop} {n i : Nat} {oi : Oper} {d : Option Tmp} {v : Value} {f : Nat} {listed : Array Bool} {a : Act} {w : World} (hi : ops[i]? = some oi) (hd : oi.dst = d)
    (hB : headB md ops n listed = true) (hf : Region.free md ops listed i = true) (hr : ((Region.ready md ops listed).contains i && decide (i < n)) = true)
    (hQ : ∀ c a w, Q (.panic c) (a.put d v) w → Q (.panic c) a w) (hy : YieldsIf P ops S oi v a) (hS : S w)
    (h : wpHd P md ops Q S n f (listed.setIfInBounds i true) (a.put d v) w) : wpHd P md ops Q S n (f + 1) listed a w := by
  subst hd
  exact wpHd_take hi hB hf hr hQ hy hS h
theorem rahead_any (o1 v1 o2 v2 : Int) (w : World) :
    Calls Tryz.prog 29 #[.agg #[.int .u32 o1, .int .u32 v1], .agg #[.int .u32 o2, .int .u32 v2]] w fun e w' => e = .returned (.bool (aheadB o1 v1 o2 v2)) ∧ Ext w w' := by
  by_cases h1 : o1 < o2
  · have HR := Hm (show aheadB o1 v1 o2 v2 = true from decide_eq_true (.inl h1))
    go_enter Tryz.func29, Tryz.ntmps29
    go_wp2
    go_ret
    exact ⟨ret_bool HR.out.symm, by exact eX⟩
  by_cases h2 : o1 = o2
  · subst h2
    by_cases h3 : v1 < v2
    · have HR := Hm (show aheadB o1 v1 o1 v2 = true from decide_eq_true (.inr ⟨rfl, h3⟩))
      go_enter Tryz.func29, Tryz.ntmps29
      go_wp2
      go_ret
      exact ⟨ret_bool HR.out.symm, by exact eX⟩
    · have HR := Hm (show aheadB o1 v1 o1 v2 = false from decide_eq_false (by unfold aheadP; omega))
      go_enter Tryz.func29, Tryz.ntmps29
      go_wp2
      go_ret
      exact ⟨ret_bool HR.out.symm, by exact eX⟩
  · have HR := Hm (show aheadB o1 v1 o2 v2 = false from decide_eq_false (by unfold aheadP; omega))
    have h2' : (o1 == o2) = false := by simpa using h2
    clear h2
    go_enter Tryz.func29, Tryz.ntmps29
    go_wp2
    go_ret
    exact ⟨ret_bool HR.out.symm, by exact eX⟩
theorem rget_any (ps : List RR) (a : Option Addr) (cap : Nat) (o v : Int) (w : World) (hl : RL w (.slice a ps.length cap) ps) (hlen : ps.length ≤ 1000) :
    Calls Tryz.prog 28 #[.slice a ps.length cap, .agg #[.int .u32 o, .int .u32 v]] w fun e w' => e = .returned (.tuple #[((getP o v ps).getD RR.zero).agg, .bool (getP o v ps).isSome]) ∧ Ext w w' := by
  have HL := Hm hl.row
  clear hl
  go_enter Tryz.func28, Tryz.ntmps28
  go_wp2
  go_loopw [6] (fun i wr => ∃ k : Nat, k ≤ ps.length ∧ i = .int .i64 k ∧ Hid (∀ j (hj : j < ps.length), j < k → ¬ (ps[j].r.oid = o ∧ ps[j].r.ver = v)) ∧ Hid (Ext ((w.alloc (.cells #[.int .u32 o, .int .u32 v] 47)).alloc (.cells #[.int .u32 0, .int .u32 0, .string ⟨#[]⟩, .int .u8 0, .slice none 0 0] 55)) wr)) (fun i _ => ps.length - (intOf i).toNat)
  case atStart => exact ⟨0, Nat.zero_le _, rfl, Hm (fun j hj h => by omega), Hm (Ext.refl _)⟩
  case round =>
    obtain ⟨k, hk, rfl, hrel, hE⟩ := hrel
    have hEw : Ext w wr := (((Ext.refl w).alloc _).alloc _).trans hE.out
    have HB0 := Hm (((Blk.new w #[.int .u32 o, .int .u32 v] 47).alloc (.cells #[.int .u32 0, .int .u32 0, .string ⟨#[]⟩, .int .u8 0, .slice none 0 0] 55)).ext hE.out)
    have HB1 := Hm ((Blk.new' (w := w.alloc (.cells #[.int .u32 o, .int .u32 v] 47)) (b := w.heap.size + 1) #[.int .u32 0, .int .u32 0, .string ⟨#[]⟩, .int .u8 0, .slice none 0 0] 55 (by simp)).ext hE.out)
    have g0 := HB0.out.cell
    have z0 := HB0.out.lt
    have g1 := HB1.out.cell
    have g1f := HB1.out.frozen
    have z1 := HB1.out.lt
    by_cases hlt : k < ps.length
    · obtain ⟨b, q, rfl, hb, hx⟩ := HL.out.at_ (i := k) (by simpa using hlt)
      obtain ⟨f0, f1, f2, f3, f4⟩ := RR.at_ hlt hx hb hEw
      have hbw : b < wr.heap.size := Nat.lt_of_lt_of_le hb hEw.size
      have HGP := Hm (fun h => getP_at (o := o) (v := v) hlt h hrel.out)
      obtain ⟨p, hp⟩ : ∃ p, p = ps[k] := ⟨_, rfl⟩
      rw [← hp] at f0 f1 f2 f3 f4 HGP
      have HP := Hm hp
      clear hx hp
      have HEW := Hm hEw
      clear hEw
      by_cases h1 : p.r.oid = o ∧ p.r.ver = v
      · have HG := Hm (HGP.out h1)
        obtain ⟨e1, e2⟩ := h1
        rw [e1] at f0
        rw [e2] at f1
        clear HGP
        go_wp2
        go_region_held3 (fun w' => Ext (wr) w' ∧ (∀ b o, b < (wr).heap.size → w'.cell? ⟨b, o, none⟩ = (wr).cell? ⟨b, o, none⟩) ∧ (∀ b o, b < (wr).heap.size → w'.frozen? ⟨b, o, none⟩ = (wr).frozen? ⟨b, o, none⟩)) ((exact held_of (by exact eX))) (fail)
        go_wp2
        simp [bodyPost, results, Tryz.results28, go_sem, *]
        have hEw := HEW.out
        exact ⟨⟨by rw [HG.out]; show _ = RR.agg p; unfold RR.agg; rw [e1, e2], by rw [HG.out]; rfl⟩, by exact eX⟩
      · have HNO := Hm h1
        by_cases h2 : p.r.oid = o
        · have h3 : (p.r.ver == v) = false := by simpa using (fun h => h1 ⟨h2, h⟩)
          rw [h2] at f0
          clear HGP h1
          go_wp2
          go_region_held3 (fun w' => Ext (wr) w' ∧ (∀ b o, b < (wr).heap.size → w'.cell? ⟨b, o, none⟩ = (wr).cell? ⟨b, o, none⟩) ∧ (∀ b o, b < (wr).heap.size → w'.frozen? ⟨b, o, none⟩ = (wr).frozen? ⟨b, o, none⟩)) ((exact held_of (by exact eX))) (fail)
          go_wp2
          go_roundw
          case rel => exact ⟨k + 1, by omega, by go_num, Hm (fun j hj hjk => by
            by_cases e : j = k
            · subst e; rw [← HP.out]; exact HNO.out
            · exact hrel.out j hj (by omega)), Hm (by have hE := hE.out; exact eX)⟩
          case measure => simp [intOf]; omega
        · have h3 : (p.r.oid == o) = false := by simpa using h2
          clear HGP h1 h2
          go_wp2
          go_region_held3 (fun w' => Ext (wr) w' ∧ (∀ b o, b < (wr).heap.size → w'.cell? ⟨b, o, none⟩ = (wr).cell? ⟨b, o, none⟩) ∧ (∀ b o, b < (wr).heap.size → w'.frozen? ⟨b, o, none⟩ = (wr).frozen? ⟨b, o, none⟩)) ((exact held_of (by exact eX))) (fail)
          go_wp2
          go_roundw
          case rel => exact ⟨k + 1, by omega, by go_num, Hm (fun j hj hjk => by
            by_cases e : j = k
            · subst e; rw [← HP.out]; exact HNO.out
            · exact hrel.out j hj (by omega)), Hm (by have hE := hE.out; exact eX)⟩
          case measure => simp [intOf]; omega
    · have HN := Hm (getP_none (o := o) (v := v) (ps := ps) (fun j hj => hrel.out j hj (by omega)))
      have HEW := Hm hEw
      clear hEw
      go_wp2
      simp [bodyPost, results, Tryz.results28, go_sem, *]
      have hEw := HEW.out
      exact ⟨⟨by rw [HN.out]; rfl, by rw [HN.out]⟩, by exact eX⟩
theorem posR_in {ro rv : Int} {ps : List RR} {i : Nat} (hi : i ≤ ps.length) (h1 : ∀ m (h : m < ps.length), m < i → aheadP ps[m].r.oid ps[m].r.ver ro rv) (h2 : ∀ m (h : m < ps.length), i ≤ m → ¬ aheadP ps[m].r.oid ps[m].r.ver ro rv) : posR ro rv (ps.map RR.r) = i := by
  refine posR_of (by rw [List.length_map]; exact hi) (fun j hj hji => ?_) (fun hj => ?_)
  · rw [List.getElem_map]; exact h1 j (by rwa [List.length_map] at hj) hji
  · rw [List.getElem_map]; exact h2 i (by rwa [List.length_map] at hj) (Nat.le_refl _)
theorem bs_any (ps : List RR) (a : Option Addr) (cap : Nat) (ro rv : Int) (w : World) (hl : RL w (.slice a ps.length cap) ps) (hlen : ps.length ≤ 1000) (hs : Srt (ps.map RR.r)) :
    Calls Tryz.prog 88 #[.slice a ps.length cap, .agg #[.int .u32 ro, .int .u32 rv], .func (.func 89) #[] #[]] w fun e w' => e = .returned (.tuple #[.int .i64 (posR ro rv (ps.map RR.r) : Nat), .bool (hasR ro rv (ps.map RR.r))]) ∧ Ext w w' := by
  have HL := Hm hl.row
  have HS := Hm hs
  have HF := Hm (fun p W => find1_any p ro rv W)
  unfold RR.agg at HF
  clear hl hs
  go_enter Tryz.func88, Tryz.ntmps88
  go_wp2
  go_loopw [9, 10] (fun i j wr => ∃ x y : Nat, x ≤ y ∧ y ≤ ps.length ∧ i = .int .i64 x ∧ j = .int .i64 y ∧ Hid (∀ m (h : m < ps.length), m < x → aheadP ps[m].r.oid ps[m].r.ver ro rv) ∧ Hid (∀ m (h : m < ps.length), y ≤ m → ¬ aheadP ps[m].r.oid ps[m].r.ver ro rv) ∧ Hid (Ext (w.alloc (.cells #[.int .u32 ro, .int .u32 rv] 66)) wr)) (fun i j _ => (intOf j).toNat - (intOf i).toNat)
  case atStart => exact ⟨0, ps.length, Nat.zero_le _, Nat.le_refl _, rfl, rfl, Hm (fun m h h2 => by omega), Hm (fun m h h2 => by omega), Hm (Ext.refl _)⟩
  case round =>
    obtain ⟨x, y, hxy, hy, rfl, rfl, hlo, hhi, hE⟩ := hrel
    have hEw : Ext w wr := ((Ext.refl w).alloc _).trans hE.out
    have HB0 := Hm ((Blk.new w #[.int .u32 ro, .int .u32 rv] 66).ext hE.out)
    have g0 := HB0.out.cell
    have z0 := HB0.out.lt
    have HEW := Hm hEw
    by_cases hlt : x < y
    · obtain ⟨h, hh⟩ : ∃ h : Nat, h = (x + y) / 2 := ⟨_, rfl⟩
      have hhp : h < ps.length := by omega
      obtain ⟨b, q, rfl, hb, hx⟩ := HL.out.at_ (i := h) (by simpa using hhp)
      obtain ⟨f0, f1, f2, f3, f4⟩ := RR.at_ hhp hx hb hEw
      have hbw : b < wr.heap.size := Nat.lt_of_lt_of_le hb hEw.size
      have HHI := Hm (hhi.out)
      have HLO := Hm (hlo.out)
      have hsx : ∀ m (hm : m < ps.length), m ≤ h → aheadP ps[h].r.oid ps[h].r.ver ro rv → aheadP ps[m].r.oid ps[m].r.ver ro rv := fun m hm hmh hq => by
        rcases Nat.eq_or_lt_of_le hmh with e | e
        · subst e; exact hq
        · have := HS.out.at_ (i := m) (j := h) (by simpa using hm) (by simpa using hhp) e
          unfold Rl.lt at this
          simp only [List.getElem_map] at this
          exact ahead_trans this hq
      have hsy : ∀ m (hm : m < ps.length), h ≤ m → ¬ aheadP ps[h].r.oid ps[h].r.ver ro rv → ¬ aheadP ps[m].r.oid ps[m].r.ver ro rv := fun m hm hmh hq hq2 => by
        rcases Nat.eq_or_lt_of_le hmh with e | e
        · subst e; exact hq hq2
        · have := HS.out.at_ (i := h) (j := m) (by simpa using hhp) (by simpa using hm) e
          unfold Rl.lt at this
          simp only [List.getElem_map] at this
          exact hq (ahead_trans this hq2)
      have HSX := Hm hsx
      have HSY := Hm hsy
      have HCN := Hm (cmpR_neg (o1 := ps[h].r.oid) (v1 := ps[h].r.ver) (o2 := ro) (v2 := rv))
      have HFW := Hm (fun W => HF.out ps[h] W)
      obtain ⟨p, hp⟩ : ∃ p, p = ps[h] := ⟨_, rfl⟩
      rw [← hp] at f0 f1 f2 f3 f4 HSX HSY HCN HFW
      obtain ⟨A, hA⟩ : ∃ A, A = cmpR p.r.oid p.r.ver ro rv := ⟨_, rfl⟩
      rw [← hA] at HCN HFW
      have e1 : IntKind.i64.wrap ((x : Int) + (y : Int)) = (x : Int) + (y : Int) := by rw [IntKind.wrap_i64]; omega
      have e2 : IntKind.u64.wrap ((x : Int) + (y : Int)) = (x : Int) + (y : Int) := by rw [IntKind.wrap_u64]; omega
      have e3 : ((x : Int) + (y : Int)) / 2 = (h : Int) := by omega
      have HH := Hm hh
      clear hx hp hA hsx hsy hhi hlo hEw hh
      by_cases hA : A < 0
      · have HA := Hm (HCN.out.1 hA)
        go_wp2
        go_region_held3 (fun w' => Ext (wr) w' ∧ (∀ b o, b < (wr).heap.size → w'.cell? ⟨b, o, none⟩ = (wr).cell? ⟨b, o, none⟩) ∧ (∀ b o, b < (wr).heap.size → w'.frozen? ⟨b, o, none⟩ = (wr).frozen? ⟨b, o, none⟩)) ((exact held_of (by exact eX))) (first | (go_at_call 89; refine (HFW.out _).mono ?_; rintro e w2 ⟨rfl, hb2⟩; have HE2 := Hm (show Ext wr w2 by exact eX)))
        clear hb2
        go_wp2
        go_roundw
        case rel => exact ⟨h + 1, y, by have := HH.out; omega, hy, by go_num, rfl, Hm (fun m hm hmh => HSX.out m hm (by omega) HA.out), HHI, Hm (hE.out.trans (by have := HE2.out; exact eX))⟩
        case measure => have := HH.out; simp [intOf]; omega
      · have HA := Hm (fun q => hA (HCN.out.2 q))
        go_wp2
        go_region_held3 (fun w' => Ext (wr) w' ∧ (∀ b o, b < (wr).heap.size → w'.cell? ⟨b, o, none⟩ = (wr).cell? ⟨b, o, none⟩) ∧ (∀ b o, b < (wr).heap.size → w'.frozen? ⟨b, o, none⟩ = (wr).frozen? ⟨b, o, none⟩)) ((exact held_of (by exact eX))) (first | (go_at_call 89; refine (HFW.out _).mono ?_; rintro e w2 ⟨rfl, hb2⟩; have HE2 := Hm (show Ext wr w2 by exact eX)))
        clear hb2
        go_wp2
        go_roundw
        case rel => exact ⟨x, h, by have := HH.out; omega, by omega, rfl, rfl, HLO, Hm (fun m hm hmh => HSY.out m hm hmh HA.out), Hm (hE.out.trans (by have := HE2.out; exact eX))⟩
        case measure => have := HH.out; simp [intOf]; omega
    · obtain rfl : x = y := by omega
      have HP := Hm (posR_in (ro := ro) (rv := rv) hy hlo.out hhi.out)
      have HHS := Hm (HS.out.has ro rv)
      by_cases hlt2 : x < ps.length
      · obtain ⟨b, q, rfl, hb, hx⟩ := HL.out.at_ (i := x) (by simpa using hlt2)
        obtain ⟨f0, f1, f2, f3, f4⟩ := RR.at_ hlt2 hx hb hEw
        have hbw : b < wr.heap.size := Nat.lt_of_lt_of_le hb hEw.size
        have HH2 : Hid (hasR ro rv (ps.map RR.r) = decide (cmpR ps[x].r.oid ps[x].r.ver ro rv = 0)) := Hm (by
          rw [HHS.out]
          have hp := HP.out
          apply decide_eq_decide.2
          rw [cmpR_zero]
          constructor
          · rintro ⟨h1, h2⟩
            simp only [hp, List.getElem_map] at h2
            exact h2
          · intro h2
            refine ⟨by rw [hp, List.length_map]; exact hlt2, ?_⟩
            simp only [hp, List.getElem_map]
            exact h2)
        have HFW := Hm (fun W => HF.out ps[x] W)
        obtain ⟨p, hp⟩ : ∃ p, p = ps[x] := ⟨_, rfl⟩
        rw [← hp] at f0 f1 f2 f3 f4 HFW HH2
        obtain ⟨A, hA⟩ : ∃ A, A = cmpR p.r.oid p.r.ver ro rv := ⟨_, rfl⟩
        rw [← hA] at HFW HH2
        clear hx hp hA hEw hhi hlo hlt
        by_cases hA : A = 0
        · subst hA
          go_wp2
          go_region_held3 (fun w' => Ext (wr) w' ∧ (∀ b o, b < (wr).heap.size → w'.cell? ⟨b, o, none⟩ = (wr).cell? ⟨b, o, none⟩) ∧ (∀ b o, b < (wr).heap.size → w'.frozen? ⟨b, o, none⟩ = (wr).frozen? ⟨b, o, none⟩)) ((exact held_of (by exact eX))) (first | (go_at_call 89; refine (HFW.out _).mono ?_; rintro e w2 ⟨rfl, hb2⟩; have HE2 := Hm (show Ext wr w2 by exact eX)))
          clear hb2
          go_wp2
          go_ret2
          exact ⟨by rw [HP.out, HH2.out]; rfl, HEW.out.trans (by have := HE2.out; exact eX)⟩
        · have hA' : (A == 0) = false := by simpa using hA
          have HN := Hm (HH2.out.trans (decide_eq_false hA))
          clear hA
          go_wp2
          go_region_held3 (fun w' => Ext (wr) w' ∧ (∀ b o, b < (wr).heap.size → w'.cell? ⟨b, o, none⟩ = (wr).cell? ⟨b, o, none⟩) ∧ (∀ b o, b < (wr).heap.size → w'.frozen? ⟨b, o, none⟩ = (wr).frozen? ⟨b, o, none⟩)) ((exact held_of (by exact eX))) (first | (go_at_call 89; refine (HFW.out _).mono ?_; rintro e w2 ⟨rfl, hb2⟩; have HE2 := Hm (show Ext wr w2 by exact eX)))
          clear hb2
          go_wp2
          go_ret2
          exact ⟨by rw [HP.out, HN.out]; rfl, HEW.out.trans (by have := HE2.out; exact eX)⟩
      · obtain rfl : x = ps.length := by omega
        have HN : Hid (hasR ro rv (ps.map RR.r) = false) := Hm (by
          rw [HHS.out]
          apply decide_eq_false
          rintro ⟨h1, -⟩
          rw [HP.out, List.length_map] at h1
          omega)
        clear hEw hhi hlo hlt HHS
        go_wp2
        refine wp_region_head 15 (fun w' => Ext (wr) w' ∧ (∀ b o, b < (wr).heap.size → w'.cell? ⟨b, o, none⟩ = (wr).cell? ⟨b, o, none⟩) ∧ (∀ b o, b < (wr).heap.size → w'.frozen? ⟨b, o, none⟩ = (wr).frozen? ⟨b, o, none⟩)) (by kernel_rfl) (by decide) ?_
        have hA0 : Hid ((fun w' => Ext (wr) w' ∧ (∀ b o, b < (wr).heap.size → w'.cell? ⟨b, o, none⟩ = (wr).cell? ⟨b, o, none⟩) ∧ (∀ b o, b < (wr).heap.size → w'.frozen? ⟨b, o, none⟩ = (wr).frozen? ⟨b, o, none⟩)) wr.drew) := held_of (by exact eX)
        refine HG.on 0 35 hA0.out ?_
        try simp only [Act.put, List.setIfInBounds_toArray, List.set_cons_zero, List.set_cons_succ]
        refine HG.on 1 36 hA0.out ?_
        try simp only [Act.put, List.setIfInBounds_toArray, List.set_cons_zero, List.set_cons_succ]
        refine HG.on 2 37 hA0.out ?_
        try simp only [Act.put, List.setIfInBounds_toArray, List.set_cons_zero, List.set_cons_succ]
        refine HG.on 3 38 hA0.out ?_
        try simp only [Act.put, List.setIfInBounds_toArray, List.set_cons_zero, List.set_cons_succ]
        refine HG.on 4 39 hA0.out ?_
        try simp only [Act.put, List.setIfInBounds_toArray, List.set_cons_zero, List.set_cons_succ]
        refine wpHd_takeD (i := 5) (d := some 40) (v := undef) rfl rfl (by kernel_rfl) (by kernel_rfl) (by kernel_rfl) (fun _ _ _ h => h) (Or.inr ⟨by rfl, rfl⟩) hA0.out ?_
        try simp only [Act.put, List.setIfInBounds_toArray, List.set_cons_zero, List.set_cons_succ]
        refine wpHd_takeD (i := 6) (d := some 41) (v := undef) rfl rfl (by kernel_rfl) (by kernel_rfl) (by kernel_rfl) (fun _ _ _ h => h) (Or.inr ⟨by rfl, rfl⟩) hA0.out ?_
        try simp only [Act.put, List.setIfInBounds_toArray, List.set_cons_zero, List.set_cons_succ]
        refine wpHd_takeD (i := 7) (d := some 42) (v := undef) rfl rfl (by kernel_rfl) (by kernel_rfl) (by kernel_rfl) (fun _ _ _ h => h) (Or.inr ⟨by rfl, rfl⟩) hA0.out ?_
        try simp only [Act.put, List.setIfInBounds_toArray, List.set_cons_zero, List.set_cons_succ]
        refine wpHd_takeD (i := 8) (d := some 43) (v := undef) rfl rfl (by kernel_rfl) (by kernel_rfl) (by kernel_rfl) (fun _ _ _ h => h) (Or.inr ⟨by rfl, rfl⟩) hA0.out ?_
        try simp only [Act.put, List.setIfInBounds_toArray, List.set_cons_zero, List.set_cons_succ]
        refine wpHd_takeD (i := 9) (d := some 44) (v := undef) rfl rfl (by kernel_rfl) (by kernel_rfl) (by kernel_rfl) (fun _ _ _ h => h) (Or.inr ⟨by rfl, rfl⟩) hA0.out ?_
        try simp only [Act.put, List.setIfInBounds_toArray, List.set_cons_zero, List.set_cons_succ]
        refine wpHd_takeD (i := 10) (d := some 45) (v := undef) rfl rfl (by kernel_rfl) (by kernel_rfl) (by kernel_rfl) (fun _ _ _ h => h) (Or.inr ⟨by rfl, rfl⟩) hA0.out ?_
        try simp only [Act.put, List.setIfInBounds_toArray, List.set_cons_zero, List.set_cons_succ]
        refine wpHd_takeD (i := 11) (d := some 46) (v := undef) rfl rfl (by kernel_rfl) (by kernel_rfl) (by kernel_rfl) (fun _ _ _ h => h) (Or.inr ⟨by rfl, rfl⟩) hA0.out ?_
        try simp only [Act.put, List.setIfInBounds_toArray, List.set_cons_zero, List.set_cons_succ]
        refine wpHd_takeD (i := 12) (d := some 47) (v := undef) rfl rfl (by kernel_rfl) (by kernel_rfl) (by kernel_rfl) (fun _ _ _ h => h) (Or.inr ⟨by rfl, rfl⟩) hA0.out ?_
        try simp only [Act.put, List.setIfInBounds_toArray, List.set_cons_zero, List.set_cons_succ]
        refine HG.on 13 48 hA0.out ?_
        try simp only [Act.put, List.setIfInBounds_toArray, List.set_cons_zero, List.set_cons_succ]
        refine HG.on 14 6 hA0.out ?_
        try simp only [Act.put, List.setIfInBounds_toArray, List.set_cons_zero, List.set_cons_succ]
        refine wpHd_tail (by kernel_rfl) ?_
        simp only [List.drop_succ_cons, List.drop_zero]
        go_wp2
        go_ret2
        exact ⟨by rw [HP.out, HN.out]; rfl, HEW.out.trans (by exact eX)⟩
theorem find_any (N g : Nat) (c : Value) (ps : List RR) (ro rv : Int) (w : World) (hc : Ca w N g c ps) :
    Calls Tryz.prog 57 #[.pointer (some ⟨g, 0, none⟩), .agg #[.int .u32 ro, .int .u32 rv]] w fun e w' => e = .returned (.tuple #[.int .i64 (posR ro rv (ps.map RR.r) : Nat), .bool (hasR ro rv (ps.map RR.r))]) ∧ Ext w w' := by
  obtain ⟨a, cap, rfl⟩ := hc.shape
  have HB := Hm (fun W (h : Ext w W) => bs_any ps a cap ro rv W (hc.rl.ext h) (by have := hc.n64; omega) hc.ok.srt)
  have g0 := hc.ptr.cell
  have z0 := hc.ptr.lt
  clear hc
  go_enter Tryz.func57, Tryz.ntmps57
  go_wp2
  go_region_held3 (fun w' => Ext (w.alloc (.cells #[.int .u32 ro, .int .u32 rv] 66)) w' ∧ (∀ b o, b < (w.alloc (.cells #[.int .u32 ro, .int .u32 rv] 66)).heap.size → w'.cell? ⟨b, o, none⟩ = (w.alloc (.cells #[.int .u32 ro, .int .u32 rv] 66)).cell? ⟨b, o, none⟩) ∧ (∀ b o, b < (w.alloc (.cells #[.int .u32 ro, .int .u32 rv] 66)).heap.size → w'.frozen? ⟨b, o, none⟩ = (w.alloc (.cells #[.int .u32 ro, .int .u32 rv] 66)).frozen? ⟨b, o, none⟩)) ((exact held_of (by exact eX))) (first | (go_at_call 88; refine (HB.out _ (by exact eX)).mono ?_; rintro e w2 ⟨rfl, hb2⟩))
  go_wp2
  go_ret2
  exact ⟨rfl, by exact eX⟩
end Go.Proofs.YtdlhaidlokkmnaaGreatDoor
