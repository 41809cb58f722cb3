/-
A message's bytes: the reference's Put.
-/
import Derived.Test.YtdlhaidlokkmnaaGreatDoorP29
import Derived.Test.YtdlhaidlokkmnaaGreatDoorP30
import Derived.Test.YtdlhaidlokkmnaaGreatDoorP43
import Derived.Test.YtdlhaidlokkmnaaGreatDoorP44
set_option maxRecDepth 100000
set_option maxHeartbeats 16000000
namespace Go.Proofs.YtdlhaidlokkmnaaGreatDoor
open Go.RowKit
theorem wrap_0 : IntKind.u8.wrap 0 = 0 := by decide
theorem wrap_1 : IntKind.u8.wrap 1 = 1 := by decide
theorem ko_1a : (⟨#[75, 79]⟩ : ByteArray).extract (0 : Int).toNat 1 = strOfNums [75] := by rfl
theorem ko_1b : (⟨#[75, 79]⟩ : ByteArray).extract 0 1 = strOfNums [75] := by rfl
theorem ko_2a : (⟨#[75, 79]⟩ : ByteArray).extract (1 : Int).toNat 2 = strOfNums [79] := by rfl
theorem ko_2b : (⟨#[75, 79]⟩ : ByteArray).extract 1 2 = strOfNums [79] := by rfl
theorem sl_bW (w : World) (s : ByteArray) (c : Nat) : Sl (Go.Lib.bytesWorld w 5 s) (.slice (some ⟨w.heap.size, 0, none⟩) s.size c) 1 ((strL s).map bcell) := by
  refine ⟨_, c, by rw [List.length_map, strL_len], .inr ⟨w.heap.size, 0, rfl, by rw [Go.Lib.bytesWorld_size]; omega, fun i hi j hj => ?_⟩⟩
  obtain rfl : j = 0 := by omega
  rw [List.length_map, strL_len] at hi
  rw [Nat.zero_add, Nat.mul_one, Nat.add_zero, Go.Lib.bytesWorld_cell w _ s i hi, getD_map bcell (strL s) (by rw [strL_len]; exact hi)]
  have h : i < s.data.toList.length := by simpa using hi
  have h2 : i < s.data.size := by simpa using h
  simp [strL, bcell]
  rw [Array.getElem?_eq_getElem h2]
  rfl
theorem rput20_any (p : ML) (ps : List RR) (a : Option Addr) (cap : Nat) (w : World) (hp : p.at 6 K.rc w) (ho : p.okr) (hl : RL w (.slice a ps.length cap) ps) (hc : RCat ps) (htb : ∀ c ∈ p.e.e.b, c.tw) (hta : ∀ c ∈ p.e.e.a, c.tw) :
    Calls Tryz.prog 22 #[.slice a ps.length cap, p.agg] w fun e w' => ∃ v, e = .returned (.tuple #[v, .int .i64 (msgE p.m (ps.map RR.r))]) ∧ Sl w' v 1 ((strL (strOfNums (msgW p.m (ps.map RR.r)))).map bcell) ∧ (∀ len cap, v = .slice none len cap → v = .slice none 0 0) ∧ Ext w w' := by
  have HMR := Hm (fun W (h : Ext w W) => mrright_any p ps a cap W (hp.ext h) ho.len ho.nm ho.cs ho.sm ho.wk (hl.ext h) hc)
  have HBL := Hm (fun (h : msgE p.m (ps.map RR.r) = 0) => body_len (m := p.m) h ho.sm ho.wb ho.wa)
  have HRR := Hm (fun (h : msgE p.m (ps.map RR.r) = 0) => msg_rel (m := p.m) h)
  have HEV := Hm (fun (h : msgE p.m (ps.map RR.r) = 0) => msg_ev (m := p.m) h)
  have HP := Hm hp
  have HOK := Hm ho
  have HTB := Hm htb
  have HTA := Hm hta
  have HMW := Hm (show msgW p.m (ps.map RR.r) = if msgE p.m (ps.map RR.r) ≠ 0 then [] else p.k :: (octs (bodyW p.m).length 4 ++ bodyW p.m) from rfl)
  clear hp ho hl hc htb hta
  obtain ⟨MW, hMW⟩ : ∃ M, M = msgW p.m (ps.map RR.r) := ⟨_, rfl⟩
  obtain ⟨E, hE⟩ : ∃ E, E = msgE p.m (ps.map RR.r) := ⟨_, rfl⟩
  rw [← hMW, ← hE] at HMW
  rw [← hMW, ← hE]
  rw [← hE] at HMR HBL HRR HEV
  clear hE hMW
  obtain ⟨k, x, st, n, ⟨⟨o, v, nm, id, cols⟩, ca, cc⟩, ⟨⟨kd, ao, av, old, b, aa, rs, fl⟩, ba, bc, aad, ac, ra, rc⟩⟩ := p
  rw [show (ML.agg (⟨k, x, st, n, ⟨⟨o, v, nm, id, cols⟩, ca, cc⟩, ⟨⟨kd, ao, av, old, b, aa, rs, fl⟩, ba, bc, aad, ac, ra, rc⟩⟩ : ML)) = .agg #[.int .u8 k, .int .u32 x, .int .u64 st, .int .u32 n, .int .u32 o, .int .u32 v, .string nm, .int .u8 id, .slice ca cols.length cc, .int .u8 kd, .int .u32 ao, .int .u32 av, .int .u8 old, .slice ba b.length bc, .slice aad aa.length ac, .slice ra rs.length rc, .int .u8 fl] from rfl] at HMR ⊢
  unfold ML.m at HMW HBL HRR HEV
  dsimp only at HMW HBL HRR HEV
  have HX0 := Hm (Blk.new w #[.int .u8 k, .int .u32 x, .int .u64 st, .int .u32 n, .int .u32 o, .int .u32 v, .string nm, .int .u8 id, .slice ca cols.length cc, .int .u8 kd, .int .u32 ao, .int .u32 av, .int .u8 old, .slice ba b.length bc, .slice aad aa.length ac, .slice ra rs.length rc, .int .u8 fl] 90)
  by_cases hE : E = 0
  case neg =>
    have hE1 : (E != 0) = true := by simpa using hE
    have HR := Hm (HMW.out.trans (if_pos hE))
    clear HMW HBL HRR HEV HP HOK HTB HTA hE
    go_enter Tryz.func22, Tryz.ntmps22
    go_wp2_with (first
      | (refine wpList_load_to rfl 90 (.tmp 3) rfl _ _ ?e1 (rload17 HX0.out) ?_; (case e1 => go_simp))
      | (go_at_call 47; refine (HMR.out _ (by exact eX)).mono ?_; rintro e w1 ⟨rfl, hb1⟩))
    go_ret2
    exact ⟨_, rfl, by rw [HR.out]; exact ⟨none, 0, rfl, .inl rfl⟩, fun _ _ _ => rfl, by exact eX⟩
  subst hE
  have HB1 := Hm (HMW.out.trans (if_neg (fun h => h rfl)))
  have HBB := Hm (HBL.out rfl)
  have HRL := Hm (HRR.out rfl)
  have HVE := Hm (HEV.out rfl)
  clear HMW HBL HRR HEV
  go_enter Tryz.func22, Tryz.ntmps22
  go_upto_region 4 with (first
    | (refine wpList_load_to rfl 90 (.tmp 3) rfl _ _ ?e1 (rload17 HX0.out) ?_; (case e1 => go_simp))
    | (go_at_call 47; refine (HMR.out _ (by exact eX)).mono ?_; rintro e w1 ⟨rfl, hb1⟩; have HE1 := Hm (show Ext w w1 by exact eX); have HX1 := Hm (HX0.out.ext hb1); clear hb1))
  clear HX0 HMR
  obtain ⟨X, hX⟩ : ∃ X, X = w.heap.size := ⟨_, rfl⟩
  rw [← hX] at HX1 ⊢
  clear hX
  have gX := HX1.out.cell
  have zX := HX1.out.lt
  have ux := HOK.out.x.u64
  have un := HOK.out.n.u64
  go_upto_block 0 with (fail)
  go_cut [7] (fun s wx => s = .string (strOfNums (bodyW (⟨k, x, st, n, ⟨o, v, nm, id, cols⟩, ⟨kd, ao, av, old, b, aa, rs, fl⟩⟩ : Msg))) ∧ Hid (Ext w1 wx))
  case first =>
    by_cases q1 : k = 66
    · have q1' : (k == 66) = true := by simpa using q1
      have HBD := Hm (show bodyW (⟨k, x, st, n, ⟨o, v, nm, id, cols⟩, ⟨kd, ao, av, old, b, aa, rs, fl⟩⟩ : Msg) = octs x 4 ++ octs st 8 from if_pos q1)
      have HO := Hm (fun W => rnum20_any x 4 W HOK.out.x.1 (by have := HOK.out.x.2; dsimp only at this; omega) (by omega))
      have HV := Hm (fun W => rnum20_any st 8 W HOK.out.st HOK.out.st1 (by omega))
      have s1 := strO_size (octs x 4)
      have s2 := strO_size (octs st 8)
      rw [octs_len] at s1 s2
      clear q1
      go_upto_region 12 with (fail)
      have hA0 : Hid ((fun w' => Ext (w1) w' ∧ (∀ b o, b < (w1).heap.size → w'.cell? ⟨b, o, none⟩ = (w1).cell? ⟨b, o, none⟩) ∧ (∀ b o, b < (w1).heap.size → w'.frozen? ⟨b, o, none⟩ = (w1).frozen? ⟨b, o, none⟩)) w1.drew) := held_of (by exact eX)
      refine wp_region_head 8 (fun w' => Ext (w1) w' ∧ (∀ b o, b < (w1).heap.size → w'.cell? ⟨b, o, none⟩ = (w1).cell? ⟨b, o, none⟩) ∧ (∀ b o, b < (w1).heap.size → w'.frozen? ⟨b, o, none⟩ = (w1).frozen? ⟨b, o, none⟩)) (by kernel_rfl) (by decide) ?_
      refine HG.on 0 52 hA0.out ?_
      try simp only [Act.put, List.setIfInBounds_toArray, List.set_cons_zero, List.set_cons_succ]
      refine HG.on 1 53 hA0.out ?_
      try simp only [Act.put, List.setIfInBounds_toArray, List.set_cons_zero, List.set_cons_succ]
      refine HG.on 2 54 hA0.out ?_
      try simp only [Act.put, List.setIfInBounds_toArray, List.set_cons_zero, List.set_cons_succ]
      refine HG.on 4 56 hA0.out ?_
      try simp only [Act.put, List.setIfInBounds_toArray, List.set_cons_zero, List.set_cons_succ]
      refine HG.on 5 57 hA0.out ?_
      try simp only [Act.put, List.setIfInBounds_toArray, List.set_cons_zero, List.set_cons_succ]
      refine wpHd_one (i := 3) rfl rfl (by kernel_rfl) (fun KK hK => ?_)
      go_simp
      refine (HO.out _).mono ?_
      rintro e w3 ⟨rfl, hb3⟩
      have HB3 := Hm (show Ext w1 w3 by exact eX)
      refine hK.out _ _ (held_of HB3.out) (fun hA => ?_)
      clear hK KK hA hA0 hb3
      refine wpHd_one (i := 6) rfl rfl (by kernel_rfl) (fun KK hK => ?_)
      go_simp
      refine (HV.out _).mono ?_
      rintro e w4 ⟨rfl, hb4⟩
      have HB4 := Hm (show Ext w1 w4 from HB3.out.trans hb4)
      refine hK.out _ _ (held_of HB4.out) (fun hA => ?_)
      clear hK KK hA hb4
      have hA0 : Hid ((fun w' => Ext (w1) w' ∧ (∀ b o, b < (w1).heap.size → w'.cell? ⟨b, o, none⟩ = (w1).cell? ⟨b, o, none⟩) ∧ (∀ b o, b < (w1).heap.size → w'.frozen? ⟨b, o, none⟩ = (w1).frozen? ⟨b, o, none⟩)) w4) := held_of HB4.out
      refine HG.on 7 59 hA0.out ?_
      try simp only [Act.put, List.setIfInBounds_toArray, List.set_cons_zero, List.set_cons_succ]
      clear hA0 gX zX
      refine wpHd_tail (by kernel_rfl) ?_
      simp only [List.drop_succ_cons, List.drop_zero]
      go_wp2
      go_meet
      case rel => exact ⟨by rw [HBD.out, ← strO_app], HB4⟩
    have q1' : (k == 66) = false := by simpa using q1
    by_cases q2 : k = 67
    · have q2' : (k == 67) = true := by simpa using q2
      have HBD := Hm (show bodyW (⟨k, x, st, n, ⟨o, v, nm, id, cols⟩, ⟨kd, ao, av, old, b, aa, rs, fl⟩⟩ : Msg) = octs x 4 ++ octs n 4 from (if_neg q1).trans (if_pos q2))
      have HO := Hm (fun W => rnum20_any x 4 W HOK.out.x.1 (by have := HOK.out.x.2; dsimp only at this; omega) (by omega))
      have HV := Hm (fun W => rnum20_any n 4 W HOK.out.n.1 (by have := HOK.out.n.2; dsimp only at this; omega) (by omega))
      have s1 := strO_size (octs x 4)
      have s2 := strO_size (octs n 4)
      rw [octs_len] at s1 s2
      clear q1 q2
      go_upto_region 14 with (fail)
      have hA0 : Hid ((fun w' => Ext (w1) w' ∧ (∀ b o, b < (w1).heap.size → w'.cell? ⟨b, o, none⟩ = (w1).cell? ⟨b, o, none⟩) ∧ (∀ b o, b < (w1).heap.size → w'.frozen? ⟨b, o, none⟩ = (w1).frozen? ⟨b, o, none⟩)) w1.drew) := held_of (by exact eX)
      refine wp_region_head 9 (fun w' => Ext (w1) w' ∧ (∀ b o, b < (w1).heap.size → w'.cell? ⟨b, o, none⟩ = (w1).cell? ⟨b, o, none⟩) ∧ (∀ b o, b < (w1).heap.size → w'.frozen? ⟨b, o, none⟩ = (w1).frozen? ⟨b, o, none⟩)) (by kernel_rfl) (by decide) ?_
      refine HG.on 0 62 hA0.out ?_
      try simp only [Act.put, List.setIfInBounds_toArray, List.set_cons_zero, List.set_cons_succ]
      refine HG.on 1 63 hA0.out ?_
      try simp only [Act.put, List.setIfInBounds_toArray, List.set_cons_zero, List.set_cons_succ]
      refine HG.on 2 64 hA0.out ?_
      try simp only [Act.put, List.setIfInBounds_toArray, List.set_cons_zero, List.set_cons_succ]
      refine HG.on 4 66 hA0.out ?_
      try simp only [Act.put, List.setIfInBounds_toArray, List.set_cons_zero, List.set_cons_succ]
      refine HG.on 5 67 hA0.out ?_
      try simp only [Act.put, List.setIfInBounds_toArray, List.set_cons_zero, List.set_cons_succ]
      refine HG.on 6 68 hA0.out ?_
      try simp only [Act.put, List.setIfInBounds_toArray, List.set_cons_zero, List.set_cons_succ]
      refine wpHd_one (i := 3) rfl rfl (by kernel_rfl) (fun KK hK => ?_)
      go_simp
      refine (HO.out _).mono ?_
      rintro e w3 ⟨rfl, hb3⟩
      have HB3 := Hm (show Ext w1 w3 by exact eX)
      refine hK.out _ _ (held_of HB3.out) (fun hA => ?_)
      clear hK KK hA hA0 hb3
      refine wpHd_one (i := 7) rfl rfl (by kernel_rfl) (fun KK hK => ?_)
      go_simp
      refine (HV.out _).mono ?_
      rintro e w4 ⟨rfl, hb4⟩
      have HB4 := Hm (show Ext w1 w4 from HB3.out.trans hb4)
      refine hK.out _ _ (held_of HB4.out) (fun hA => ?_)
      clear hK KK hA hb4
      have hA0 : Hid ((fun w' => Ext (w1) w' ∧ (∀ b o, b < (w1).heap.size → w'.cell? ⟨b, o, none⟩ = (w1).cell? ⟨b, o, none⟩) ∧ (∀ b o, b < (w1).heap.size → w'.frozen? ⟨b, o, none⟩ = (w1).frozen? ⟨b, o, none⟩)) w4) := held_of HB4.out
      refine HG.on 8 70 hA0.out ?_
      try simp only [Act.put, List.setIfInBounds_toArray, List.set_cons_zero, List.set_cons_succ]
      clear hA0 gX zX
      refine wpHd_tail (by kernel_rfl) ?_
      simp only [List.drop_succ_cons, List.drop_zero]
      go_wp2
      go_meet
      case rel => exact ⟨by rw [HBD.out, ← strO_app], HB4⟩
    have q2' : (k == 67) = false := by simpa using q2
    by_cases q3 : k = 82
    · have q3' : (k == 82) = true := by simpa using q3
      have HBD := Hm (show bodyW (⟨k, x, st, n, ⟨o, v, nm, id, cols⟩, ⟨kd, ao, av, old, b, aa, rs, fl⟩⟩ : Msg) = relW ⟨o, v, nm, id, cols⟩ from (if_neg q1).trans ((if_neg q2).trans (if_pos q3)))
      have hr := HRL.out q3
      have h4 := Rl.right_nm hr
      have HC := Hm (Rl.right_wr hr)
      have h5 := Rl.cols_le hr
      dsimp only at h4 h5 HC
      clear q1 q2 q3 hr
      have HO := Hm (fun W => rref20_any o v W HOK.out.o HOK.out.v)
      have HV := Hm (fun W => rname20_any nm W (by omega))
      have HI := Hm (fun W => rnum20_any id 1 W HOK.out.id.1 (by have := HOK.out.id.2; dsimp only at this; omega) (by omega))
      have HN := Hm (fun W => rnum20_any cols.length 1 W (by omega) (by omega) (by omega))
      have ui := u64_small (n := id) HOK.out.id.1 (by have := HOK.out.id.2; dsimp only at this; omega)
      have ul := u64_small (n := (cols.length : Int)) (by omega) (by omega)
      have HS := Hm (show strOfNums (refW o v) ++ strOfNums (nameW nm) ++ strOfNums (octs id 1) ++ strOfNums (octs (cols.length : Int) 1) = strOfNums (refW o v ++ nameW nm ++ octs id 1 ++ octs (cols.length : Int) 1) by rw [strO_app, strO_app, strO_app])
      have s1 := strO_size (refW o v)
      have s2 := strO_size (nameW nm)
      have s3 := strO_size (octs id 1)
      have s4 := strO_size (octs (cols.length : Int) 1)
      unfold refW at s1
      unfold nameW at s2
      rw [List.length_append, octs_len, octs_len] at s1
      rw [List.length_append, octs_len, strL_len] at s2
      rw [octs_len] at s3 s4
      change (strOfNums (refW o v)).size = _ at s1
      change (strOfNums (nameW nm)).size = _ at s2
      obtain ⟨S1, hS1⟩ : ∃ S, S = strOfNums (refW o v) := ⟨_, rfl⟩
      obtain ⟨S2, hS2⟩ : ∃ S, S = strOfNums (nameW nm) := ⟨_, rfl⟩
      obtain ⟨S3, hS3⟩ : ∃ S, S = strOfNums (octs id 1) := ⟨_, rfl⟩
      obtain ⟨S4, hS4⟩ : ∃ S, S = strOfNums (octs (cols.length : Int) 1) := ⟨_, rfl⟩
      rw [← hS1] at s1 HO HS
      rw [← hS2] at s2 HV HS
      rw [← hS3] at s3 HI HS
      rw [← hS4] at s4 HN HS
      clear hS1 hS2 hS3 hS4
      go_upto_region 16 with (fail)
      have hA0 : Hid ((fun w' => Ext (w1) w' ∧ (∀ b o, b < (w1).heap.size → w'.cell? ⟨b, o, none⟩ = (w1).cell? ⟨b, o, none⟩) ∧ (∀ b o, b < (w1).heap.size → w'.frozen? ⟨b, o, none⟩ = (w1).frozen? ⟨b, o, none⟩)) w1.drew) := held_of (by exact eX)
      refine wp_region_head 22 (fun w' => Ext (w1) w' ∧ (∀ b o, b < (w1).heap.size → w'.cell? ⟨b, o, none⟩ = (w1).cell? ⟨b, o, none⟩) ∧ (∀ b o, b < (w1).heap.size → w'.frozen? ⟨b, o, none⟩ = (w1).frozen? ⟨b, o, none⟩)) (by kernel_rfl) (by decide) ?_
      refine HG.on 0 73 hA0.out ?_
      try simp only [Act.put, List.setIfInBounds_toArray, List.set_cons_zero, List.set_cons_succ]
      refine HG.on 1 74 hA0.out ?_
      try simp only [Act.put, List.setIfInBounds_toArray, List.set_cons_zero, List.set_cons_succ]
      refine HG.on 2 75 hA0.out ?_
      try simp only [Act.put, List.setIfInBounds_toArray, List.set_cons_zero, List.set_cons_succ]
      refine HG.on 4 77 hA0.out ?_
      try simp only [Act.put, List.setIfInBounds_toArray, List.set_cons_zero, List.set_cons_succ]
      refine HG.on 5 78 hA0.out ?_
      try simp only [Act.put, List.setIfInBounds_toArray, List.set_cons_zero, List.set_cons_succ]
      refine HG.on 6 79 hA0.out ?_
      try simp only [Act.put, List.setIfInBounds_toArray, List.set_cons_zero, List.set_cons_succ]
      refine HG.on 9 82 hA0.out ?_
      try simp only [Act.put, List.setIfInBounds_toArray, List.set_cons_zero, List.set_cons_succ]
      refine HG.on 10 83 hA0.out ?_
      try simp only [Act.put, List.setIfInBounds_toArray, List.set_cons_zero, List.set_cons_succ]
      refine HG.on 11 84 hA0.out ?_
      try simp only [Act.put, List.setIfInBounds_toArray, List.set_cons_zero, List.set_cons_succ]
      refine HG.on 12 85 hA0.out ?_
      try simp only [Act.put, List.setIfInBounds_toArray, List.set_cons_zero, List.set_cons_succ]
      refine HG.on 15 88 hA0.out ?_
      try simp only [Act.put, List.setIfInBounds_toArray, List.set_cons_zero, List.set_cons_succ]
      refine HG.on 16 89 hA0.out ?_
      try simp only [Act.put, List.setIfInBounds_toArray, List.set_cons_zero, List.set_cons_succ]
      refine HG.on 17 90 hA0.out ?_
      try simp only [Act.put, List.setIfInBounds_toArray, List.set_cons_zero, List.set_cons_succ]
      refine HG.on 18 91 hA0.out ?_
      try simp only [Act.put, List.setIfInBounds_toArray, List.set_cons_zero, List.set_cons_succ]
      refine HG.on 19 92 hA0.out ?_
      try simp only [Act.put, List.setIfInBounds_toArray, List.set_cons_zero, List.set_cons_succ]
      refine wpHd_one (i := 3) rfl rfl (by kernel_rfl) (fun KK hK => ?_)
      go_simp
      refine (HO.out _).mono ?_
      rintro e w3 ⟨rfl, hb_w3⟩
      have HB_w3 := Hm (show Ext w1 w3 by exact eX)
      refine hK.out _ _ (held_of HB_w3.out) (fun hA => ?_)
      clear hK KK hA hA0 hb_w3
      have hA0 : Hid ((fun w' => Ext (w1) w' ∧ (∀ b o, b < (w1).heap.size → w'.cell? ⟨b, o, none⟩ = (w1).cell? ⟨b, o, none⟩) ∧ (∀ b o, b < (w1).heap.size → w'.frozen? ⟨b, o, none⟩ = (w1).frozen? ⟨b, o, none⟩)) w3) := held_of HB_w3.out
      refine wpHd_one (i := 7) rfl rfl (by kernel_rfl) (fun KK hK => ?_)
      go_simp
      refine (HV.out _).mono ?_
      rintro e w4 ⟨rfl, hb_w4⟩
      have HB_w4 := Hm (show Ext w1 w4 by exact HB_w3.out.trans hb_w4)
      refine hK.out _ _ (held_of HB_w4.out) (fun hA => ?_)
      clear hK KK hA hA0 hb_w4
      have hA0 : Hid ((fun w' => Ext (w1) w' ∧ (∀ b o, b < (w1).heap.size → w'.cell? ⟨b, o, none⟩ = (w1).cell? ⟨b, o, none⟩) ∧ (∀ b o, b < (w1).heap.size → w'.frozen? ⟨b, o, none⟩ = (w1).frozen? ⟨b, o, none⟩)) w4) := held_of HB_w4.out
      (refine wpHd_take (i := 8) (v := ?_) rfl (by kernel_rfl) (by kernel_rfl) (by kernel_rfl) (fun _ _ _ h => h) (Or.inl ⟨by rfl, ?_⟩) hA0.out ?_; rotate_left 1; · (intro w' hS'; go_simp; (try rw [if_neg (by omega)]); try with_reducible rfl))
      refine wpHd_one (i := 13) rfl rfl (by kernel_rfl) (fun KK hK => ?_)
      go_simp
      refine (HI.out _).mono ?_
      rintro e w5 ⟨rfl, hb_w5⟩
      have HB_w5 := Hm (show Ext w1 w5 by exact HB_w4.out.trans hb_w5)
      refine hK.out _ _ (held_of HB_w5.out) (fun hA => ?_)
      clear hK KK hA hA0 hb_w5
      have hA0 : Hid ((fun w' => Ext (w1) w' ∧ (∀ b o, b < (w1).heap.size → w'.cell? ⟨b, o, none⟩ = (w1).cell? ⟨b, o, none⟩) ∧ (∀ b o, b < (w1).heap.size → w'.frozen? ⟨b, o, none⟩ = (w1).frozen? ⟨b, o, none⟩)) w5) := held_of HB_w5.out
      (refine wpHd_take (i := 14) (v := ?_) rfl (by kernel_rfl) (by kernel_rfl) (by kernel_rfl) (fun _ _ _ h => h) (Or.inl ⟨by rfl, ?_⟩) hA0.out ?_; rotate_left 1; · (intro w' hS'; go_simp; (try rw [if_neg (by omega)]); try with_reducible rfl))
      refine wpHd_one (i := 20) rfl rfl (by kernel_rfl) (fun KK hK => ?_)
      go_simp
      refine (HN.out _).mono ?_
      rintro e w6 ⟨rfl, hb_w6⟩
      have HB_w6 := Hm (show Ext w1 w6 by exact HB_w5.out.trans hb_w6)
      refine hK.out _ _ (held_of HB_w6.out) (fun hA => ?_)
      clear hK KK hA hA0 hb_w6
      have hA0 : Hid ((fun w' => Ext (w1) w' ∧ (∀ b o, b < (w1).heap.size → w'.cell? ⟨b, o, none⟩ = (w1).cell? ⟨b, o, none⟩) ∧ (∀ b o, b < (w1).heap.size → w'.frozen? ⟨b, o, none⟩ = (w1).frozen? ⟨b, o, none⟩)) w6) := held_of HB_w6.out
      (refine wpHd_take (i := 21) (v := ?_) rfl (by kernel_rfl) (by kernel_rfl) (by kernel_rfl) (fun _ _ _ h => h) (Or.inl ⟨by rfl, ?_⟩) hA0.out ?_; rotate_left 1; · (intro w' hS'; go_simp; (try rw [if_neg (by omega)]); try with_reducible rfl))
      clear hA0 gX zX
      refine wpHd_tail (by kernel_rfl) ?_
      simp only [List.drop_succ_cons, List.drop_zero]
      go_upto_region 17 with (fail)
      rw [HS.out]
      obtain ⟨hd, hhd⟩ : ∃ x, x = refW o v ++ nameW nm ++ octs id 1 ++ octs (cols.length : Int) 1 := ⟨_, rfl⟩
      rw [← hhd]
      have HHL := Hm (show hd.length ≤ 100 by rw [hhd]; unfold refW nameW; simp only [List.length_append, octs_len, strL_len]; omega)
      have HHD := Hm (show bodyW (⟨k, x, st, n, ⟨o, v, nm, id, cols⟩, ⟨kd, ao, av, old, b, aa, rs, fl⟩⟩ : Msg) = hd ++ colsW cols by rw [HBD.out, hhd]; unfold relW; simp only [List.append_assoc])
      clear hhd s1 s2 s3 s4 HB_w3 HB_w4 HB_w5 HO HV HI HN HS
      go_wp2
      go_loopg [7, 8] cols.length (fun y t i wr => ∃ j : Nat, y + j = cols.length ∧ t = .string (strOfNums (hd ++ colsW (cols.take j))) ∧ i = .int .i64 j ∧ Hid (Ext w1 wr))
      case atStart => exact ⟨0, rfl, by rw [List.take_zero]; show _ = Value.string (strOfNums (_ ++ [])); rw [List.append_nil], rfl, HB_w6⟩
      case round =>
        obtain ⟨j, hj, rfl, rfl, hE⟩ := hrel
        have HX2 := Hm (HX1.out.ext hE.out)
        have gX := HX2.out.cell
        have zX := HX2.out.lt
        by_cases hlt : j < cols.length
        · obtain ⟨b', o', rfl, hb2, hx2⟩ := HP.out.1.at_ (i := j) (by simpa using hlt)
          obtain ⟨f0, f1, f2⟩ := Col.at_ hlt hx2 hb2 (HE1.out.trans hE.out)
          have hbw : b' < wr.heap.size := Nat.lt_of_lt_of_le hb2 (HE1.out.trans hE.out).size
          have HCT := Hm (colsW_take hlt)
          have HCL := Hm (colsW_len (cols.take j) (fun c hc => HC.out c (List.mem_of_mem_take hc)))
          have HXC := Hm (HC.out _ (List.getElem_mem hlt))
          obtain ⟨xc, hxc⟩ : ∃ c, c = cols[j]'hlt := ⟨_, rfl⟩
          rw [← hxc] at f0 f1 f2 HCT HXC
          clear hxc hx2 hb2
          have HLT := Hm hlt
          have i1 : (j : Int) < (cols.length : Int) := by omega
          obtain ⟨xn, xt, xk⟩ := xc
          unfold Col.wr at HXC
          simp only at f0 f1 f2 HXC
          have x1 := HXC.out.1
          have x2 := HXC.out.2.1
          have ut := u64_small (n := xt) x2 (by have := HXC.out.2.2; omega)
          have HV := Hm (fun W => rname20_any xn W (by omega))
          have HI := Hm (fun W => rnum20_any xt 1 W x2 (by have := HXC.out.2.2; omega) (by omega))
          obtain ⟨t, ht⟩ : ∃ t, t = strOfNums (hd ++ colsW (cols.take j)) := ⟨_, rfl⟩
          have h5 : t.size ≤ 1000000 := by
            rw [ht, strO_size, List.length_append]
            have h1 := HCL.out
            have h3 := HHL.out
            rw [List.length_take] at h1
            have h2 : 1010 * min j cols.length ≤ 1010 * 16 := Nat.mul_le_mul_left _ (by omega)
            omega
          rw [← ht]
          have HTT := Hm ht
          clear ht
          have s2 := strO_size (nameW xn)
          have s3 := strO_size (octs xt 1)
          unfold nameW at s2
          rw [List.length_append, octs_len, strL_len] at s2
          rw [octs_len] at s3
          change (strOfNums (nameW xn)).size = _ at s2
          obtain ⟨S2, hS2⟩ : ∃ S, S = strOfNums (nameW xn) := ⟨_, rfl⟩
          obtain ⟨S3, hS3⟩ : ∃ S, S = strOfNums (octs xt 1) := ⟨_, rfl⟩
          rw [← hS2] at s2 HV
          rw [← hS3] at s3 HI
          have HS2 := Hm hS2
          have HS3 := Hm hS3
          clear hS2 hS3
          cases xk
          · have HS := Hm (show t ++ ⟨#[0]⟩ ++ S2 ++ S3 = strOfNums (hd ++ colsW (cols.take (j + 1))) by
              rw [HCT.out, HTT.out, HS2.out, HS3.out]
              unfold colW
              rw [show (⟨#[0]⟩ : ByteArray) = strOfNums [0] from rfl, strO_app, strO_app, strO_app]
              simp)
            have HTZ := Hm (show (t ++ ⟨#[0]⟩ : ByteArray).size ≤ 1000001 by rw [ByteArray.size_append]; show t.size + 1 ≤ _; omega)
            go_upto_region 24 with (fail)
            obtain ⟨w2, hw2⟩ : ∃ W, W = wr.alloc (.cells #[.string xn, .int .u8 xt, .bool false] 99) := ⟨_, rfl⟩
            have HXC2 := Hm (show Blk w2 wr.heap.size #[.string xn, .int .u8 xt, .bool false] 99 by rw [hw2]; exact Blk.new _ _ _)
            have HE2 := Hm (show Ext wr w2 by rw [hw2]; exact (Ext.refl wr).alloc _)
            rw [← hw2]
            obtain ⟨t2, ht2⟩ : ∃ z : ByteArray, z = t ++ ⟨#[0]⟩ := ⟨_, rfl⟩
            rw [← ht2] at HS HTZ ⊢
            have tz := HTZ.out
            clear hw2 ht2 f0 f1 f2 hbw gX zX
            have gC := HXC2.out.cell
            have zC := HXC2.out.lt
            have hA0 : Hid ((fun w' => Ext (w2) w' ∧ (∀ b o, b < (w2).heap.size → w'.cell? ⟨b, o, none⟩ = (w2).cell? ⟨b, o, none⟩) ∧ (∀ b o, b < (w2).heap.size → w'.frozen? ⟨b, o, none⟩ = (w2).frozen? ⟨b, o, none⟩)) w2.drew) := held_of (by exact eX)
            refine wp_region_head 10 (fun w' => Ext (w2) w' ∧ (∀ b o, b < (w2).heap.size → w'.cell? ⟨b, o, none⟩ = (w2).cell? ⟨b, o, none⟩) ∧ (∀ b o, b < (w2).heap.size → w'.frozen? ⟨b, o, none⟩ = (w2).frozen? ⟨b, o, none⟩)) (by kernel_rfl) (by decide) ?_
            refine HG.on 0 115 hA0.out ?_
            try simp only [Act.put, List.setIfInBounds_toArray, List.set_cons_zero, List.set_cons_succ]
            refine HG.on 1 116 hA0.out ?_
            try simp only [Act.put, List.setIfInBounds_toArray, List.set_cons_zero, List.set_cons_succ]
            refine HG.on 2 117 hA0.out ?_
            try simp only [Act.put, List.setIfInBounds_toArray, List.set_cons_zero, List.set_cons_succ]
            refine HG.on 5 120 hA0.out ?_
            try simp only [Act.put, List.setIfInBounds_toArray, List.set_cons_zero, List.set_cons_succ]
            refine HG.on 6 121 hA0.out ?_
            try simp only [Act.put, List.setIfInBounds_toArray, List.set_cons_zero, List.set_cons_succ]
            refine HG.on 7 122 hA0.out ?_
            try simp only [Act.put, List.setIfInBounds_toArray, List.set_cons_zero, List.set_cons_succ]
            refine wpHd_one (i := 3) rfl rfl (by kernel_rfl) (fun KK hK => ?_)
            go_simp
            refine (HV.out _).mono ?_
            rintro e w3 ⟨rfl, hb_w3⟩
            have HB_w3 := Hm (show Ext w2 w3 by exact eX)
            refine hK.out _ _ (held_of HB_w3.out) (fun hA => ?_)
            clear hK KK hA hA0 hb_w3
            have hA0 : Hid ((fun w' => Ext (w2) w' ∧ (∀ b o, b < (w2).heap.size → w'.cell? ⟨b, o, none⟩ = (w2).cell? ⟨b, o, none⟩) ∧ (∀ b o, b < (w2).heap.size → w'.frozen? ⟨b, o, none⟩ = (w2).frozen? ⟨b, o, none⟩)) w3) := held_of HB_w3.out
            (refine wpHd_take (i := 4) (v := ?_) rfl (by kernel_rfl) (by kernel_rfl) (by kernel_rfl) (fun _ _ _ h => h) (Or.inl ⟨by rfl, ?_⟩) hA0.out ?_; rotate_left 1; · (intro w' hS'; go_simp; (try rw [if_neg (by omega)]); try with_reducible rfl))
            refine wpHd_one (i := 8) rfl rfl (by kernel_rfl) (fun KK hK => ?_)
            go_simp
            refine (HI.out _).mono ?_
            rintro e w4 ⟨rfl, hb_w4⟩
            have HB_w4 := Hm (show Ext w2 w4 by exact HB_w3.out.trans hb_w4)
            refine hK.out _ _ (held_of HB_w4.out) (fun hA => ?_)
            clear hK KK hA hA0 hb_w4
            have hA0 : Hid ((fun w' => Ext (w2) w' ∧ (∀ b o, b < (w2).heap.size → w'.cell? ⟨b, o, none⟩ = (w2).cell? ⟨b, o, none⟩) ∧ (∀ b o, b < (w2).heap.size → w'.frozen? ⟨b, o, none⟩ = (w2).frozen? ⟨b, o, none⟩)) w4) := held_of HB_w4.out
            (refine wpHd_take (i := 9) (v := ?_) rfl (by kernel_rfl) (by kernel_rfl) (by kernel_rfl) (fun _ _ _ h => h) (Or.inl ⟨by rfl, ?_⟩) hA0.out ?_; rotate_left 1; · (intro w' hS'; go_simp; (try rw [if_neg (by omega)]); try with_reducible rfl))
            clear hA0 gC zC
            refine wpHd_tail (by kernel_rfl) ?_
            simp only [List.drop_succ_cons, List.drop_zero]
            rw [HS.out]
            go_wp2
            go_roundg (cols.length - (j + 1))
            case measure => have := HLT.out; omega
            case rel => exact ⟨j + 1, Nat.sub_add_cancel HLT.out, rfl, by go_num, Hm (hE.out.trans (HE2.out.trans HB_w4.out))⟩
          · have HS := Hm (show t ++ ⟨#[1]⟩ ++ S2 ++ S3 = strOfNums (hd ++ colsW (cols.take (j + 1))) by
              rw [HCT.out, HTT.out, HS2.out, HS3.out]
              unfold colW
              rw [show (⟨#[1]⟩ : ByteArray) = strOfNums [1] from rfl, strO_app, strO_app, strO_app]
              simp)
            have HTZ := Hm (show (t ++ ⟨#[1]⟩ : ByteArray).size ≤ 1000001 by rw [ByteArray.size_append]; show t.size + 1 ≤ _; omega)
            go_upto_region 24 with (fail)
            obtain ⟨w2, hw2⟩ : ∃ W, W = wr.alloc (.cells #[.string xn, .int .u8 xt, .bool true] 99) := ⟨_, rfl⟩
            have HXC2 := Hm (show Blk w2 wr.heap.size #[.string xn, .int .u8 xt, .bool true] 99 by rw [hw2]; exact Blk.new _ _ _)
            have HE2 := Hm (show Ext wr w2 by rw [hw2]; exact (Ext.refl wr).alloc _)
            rw [← hw2]
            obtain ⟨t2, ht2⟩ : ∃ z : ByteArray, z = t ++ ⟨#[1]⟩ := ⟨_, rfl⟩
            rw [← ht2] at HS HTZ ⊢
            have tz := HTZ.out
            clear hw2 ht2 f0 f1 f2 hbw gX zX
            have gC := HXC2.out.cell
            have zC := HXC2.out.lt
            have hA0 : Hid ((fun w' => Ext (w2) w' ∧ (∀ b o, b < (w2).heap.size → w'.cell? ⟨b, o, none⟩ = (w2).cell? ⟨b, o, none⟩) ∧ (∀ b o, b < (w2).heap.size → w'.frozen? ⟨b, o, none⟩ = (w2).frozen? ⟨b, o, none⟩)) w2.drew) := held_of (by exact eX)
            refine wp_region_head 10 (fun w' => Ext (w2) w' ∧ (∀ b o, b < (w2).heap.size → w'.cell? ⟨b, o, none⟩ = (w2).cell? ⟨b, o, none⟩) ∧ (∀ b o, b < (w2).heap.size → w'.frozen? ⟨b, o, none⟩ = (w2).frozen? ⟨b, o, none⟩)) (by kernel_rfl) (by decide) ?_
            refine HG.on 0 115 hA0.out ?_
            try simp only [Act.put, List.setIfInBounds_toArray, List.set_cons_zero, List.set_cons_succ]
            refine HG.on 1 116 hA0.out ?_
            try simp only [Act.put, List.setIfInBounds_toArray, List.set_cons_zero, List.set_cons_succ]
            refine HG.on 2 117 hA0.out ?_
            try simp only [Act.put, List.setIfInBounds_toArray, List.set_cons_zero, List.set_cons_succ]
            refine HG.on 5 120 hA0.out ?_
            try simp only [Act.put, List.setIfInBounds_toArray, List.set_cons_zero, List.set_cons_succ]
            refine HG.on 6 121 hA0.out ?_
            try simp only [Act.put, List.setIfInBounds_toArray, List.set_cons_zero, List.set_cons_succ]
            refine HG.on 7 122 hA0.out ?_
            try simp only [Act.put, List.setIfInBounds_toArray, List.set_cons_zero, List.set_cons_succ]
            refine wpHd_one (i := 3) rfl rfl (by kernel_rfl) (fun KK hK => ?_)
            go_simp
            refine (HV.out _).mono ?_
            rintro e w3 ⟨rfl, hb_w3⟩
            have HB_w3 := Hm (show Ext w2 w3 by exact eX)
            refine hK.out _ _ (held_of HB_w3.out) (fun hA => ?_)
            clear hK KK hA hA0 hb_w3
            have hA0 : Hid ((fun w' => Ext (w2) w' ∧ (∀ b o, b < (w2).heap.size → w'.cell? ⟨b, o, none⟩ = (w2).cell? ⟨b, o, none⟩) ∧ (∀ b o, b < (w2).heap.size → w'.frozen? ⟨b, o, none⟩ = (w2).frozen? ⟨b, o, none⟩)) w3) := held_of HB_w3.out
            (refine wpHd_take (i := 4) (v := ?_) rfl (by kernel_rfl) (by kernel_rfl) (by kernel_rfl) (fun _ _ _ h => h) (Or.inl ⟨by rfl, ?_⟩) hA0.out ?_; rotate_left 1; · (intro w' hS'; go_simp; (try rw [if_neg (by omega)]); try with_reducible rfl))
            refine wpHd_one (i := 8) rfl rfl (by kernel_rfl) (fun KK hK => ?_)
            go_simp
            refine (HI.out _).mono ?_
            rintro e w4 ⟨rfl, hb_w4⟩
            have HB_w4 := Hm (show Ext w2 w4 by exact HB_w3.out.trans hb_w4)
            refine hK.out _ _ (held_of HB_w4.out) (fun hA => ?_)
            clear hK KK hA hA0 hb_w4
            have hA0 : Hid ((fun w' => Ext (w2) w' ∧ (∀ b o, b < (w2).heap.size → w'.cell? ⟨b, o, none⟩ = (w2).cell? ⟨b, o, none⟩) ∧ (∀ b o, b < (w2).heap.size → w'.frozen? ⟨b, o, none⟩ = (w2).frozen? ⟨b, o, none⟩)) w4) := held_of HB_w4.out
            (refine wpHd_take (i := 9) (v := ?_) rfl (by kernel_rfl) (by kernel_rfl) (by kernel_rfl) (fun _ _ _ h => h) (Or.inl ⟨by rfl, ?_⟩) hA0.out ?_; rotate_left 1; · (intro w' hS'; go_simp; (try rw [if_neg (by omega)]); try with_reducible rfl))
            clear hA0 gC zC
            refine wpHd_tail (by kernel_rfl) ?_
            simp only [List.drop_succ_cons, List.drop_zero]
            rw [HS.out]
            go_wp2
            go_roundg (cols.length - (j + 1))
            case measure => have := HLT.out; omega
            case rel => exact ⟨j + 1, Nat.sub_add_cancel HLT.out, rfl, by go_num, Hm (hE.out.trans (HE2.out.trans HB_w4.out))⟩
        · obtain rfl : j = cols.length := by omega
          rw [List.take_length, ← HHD.out]
          go_wp2
          go_meet
          case rel => exact ⟨rfl, hE⟩
    have q3' : (k == 82) = false := by simpa using q3
    by_cases q4 : k = 84
    · have q4' : (k == 84) = true := by simpa using q4
      have HBD := Hm (show bodyW (⟨k, x, st, n, ⟨o, v, nm, id, cols⟩, ⟨kd, ao, av, old, b, aa, rs, fl⟩⟩ : Msg) = octs rs.length 1 ++ (octs fl 1 ++ refsW rs) from (if_neg q1).trans ((if_neg q2).trans ((if_neg q3).trans (if_pos q4))))
      clear q1 q2 q3 q4
      have hrl : rs.length ≤ 1000 := HOK.out.sm.r
      have f0 : 0 ≤ fl := HOK.out.fl.1
      have f1 : fl < 256 := HOK.out.fl.2
      have HO := Hm (fun W => rnum20_any rs.length 1 W (by omega) (by omega) (by omega))
      have HV := Hm (fun W => rnum20_any fl 1 W f0 (by omega) (by omega))
      have uf := u64_small (n := fl) f0 (by omega)
      have ul := u64_small (n := (rs.length : Int)) (by omega) (by omega)
      have HS := Hm (show strOfNums (octs (rs.length : Int) 1) ++ strOfNums (octs fl 1) = strOfNums (octs (rs.length : Int) 1 ++ octs fl 1) by rw [strO_app])
      have s1 := strO_size (octs (rs.length : Int) 1)
      have s2 := strO_size (octs fl 1)
      rw [octs_len] at s1 s2
      obtain ⟨S1, hS1⟩ : ∃ S, S = strOfNums (octs (rs.length : Int) 1) := ⟨_, rfl⟩
      obtain ⟨S2, hS2⟩ : ∃ S, S = strOfNums (octs fl 1) := ⟨_, rfl⟩
      rw [← hS1] at s1 HO HS
      rw [← hS2] at s2 HV HS
      clear hS1 hS2
      go_upto_region 26 with (fail)
      have hA0 : Hid ((fun w' => Ext (w1) w' ∧ (∀ b o, b < (w1).heap.size → w'.cell? ⟨b, o, none⟩ = (w1).cell? ⟨b, o, none⟩) ∧ (∀ b o, b < (w1).heap.size → w'.frozen? ⟨b, o, none⟩ = (w1).frozen? ⟨b, o, none⟩)) w1.drew) := held_of (by exact eX)
      refine wp_region_head 12 (fun w' => Ext (w1) w' ∧ (∀ b o, b < (w1).heap.size → w'.cell? ⟨b, o, none⟩ = (w1).cell? ⟨b, o, none⟩) ∧ (∀ b o, b < (w1).heap.size → w'.frozen? ⟨b, o, none⟩ = (w1).frozen? ⟨b, o, none⟩)) (by kernel_rfl) (by decide) ?_
      refine HG.on 0 127 hA0.out ?_
      try simp only [Act.put, List.setIfInBounds_toArray, List.set_cons_zero, List.set_cons_succ]
      refine HG.on 1 128 hA0.out ?_
      try simp only [Act.put, List.setIfInBounds_toArray, List.set_cons_zero, List.set_cons_succ]
      refine HG.on 2 129 hA0.out ?_
      try simp only [Act.put, List.setIfInBounds_toArray, List.set_cons_zero, List.set_cons_succ]
      refine HG.on 3 130 hA0.out ?_
      try simp only [Act.put, List.setIfInBounds_toArray, List.set_cons_zero, List.set_cons_succ]
      refine HG.on 4 131 hA0.out ?_
      try simp only [Act.put, List.setIfInBounds_toArray, List.set_cons_zero, List.set_cons_succ]
      refine HG.on 6 133 hA0.out ?_
      try simp only [Act.put, List.setIfInBounds_toArray, List.set_cons_zero, List.set_cons_succ]
      refine HG.on 7 134 hA0.out ?_
      try simp only [Act.put, List.setIfInBounds_toArray, List.set_cons_zero, List.set_cons_succ]
      refine HG.on 8 135 hA0.out ?_
      try simp only [Act.put, List.setIfInBounds_toArray, List.set_cons_zero, List.set_cons_succ]
      refine HG.on 9 136 hA0.out ?_
      try simp only [Act.put, List.setIfInBounds_toArray, List.set_cons_zero, List.set_cons_succ]
      refine wpHd_one (i := 5) rfl rfl (by kernel_rfl) (fun KK hK => ?_)
      go_simp
      refine (HO.out _).mono ?_
      rintro e w3 ⟨rfl, hb_w3⟩
      have HB_w3 := Hm (show Ext w1 w3 by exact eX)
      refine hK.out _ _ (held_of HB_w3.out) (fun hA => ?_)
      clear hK KK hA hA0 hb_w3
      have hA0 : Hid ((fun w' => Ext (w1) w' ∧ (∀ b o, b < (w1).heap.size → w'.cell? ⟨b, o, none⟩ = (w1).cell? ⟨b, o, none⟩) ∧ (∀ b o, b < (w1).heap.size → w'.frozen? ⟨b, o, none⟩ = (w1).frozen? ⟨b, o, none⟩)) w3) := held_of HB_w3.out
      refine wpHd_one (i := 10) rfl rfl (by kernel_rfl) (fun KK hK => ?_)
      go_simp
      refine (HV.out _).mono ?_
      rintro e w4 ⟨rfl, hb_w4⟩
      have HB_w4 := Hm (show Ext w1 w4 by exact HB_w3.out.trans hb_w4)
      refine hK.out _ _ (held_of HB_w4.out) (fun hA => ?_)
      clear hK KK hA hA0 hb_w4
      have hA0 : Hid ((fun w' => Ext (w1) w' ∧ (∀ b o, b < (w1).heap.size → w'.cell? ⟨b, o, none⟩ = (w1).cell? ⟨b, o, none⟩) ∧ (∀ b o, b < (w1).heap.size → w'.frozen? ⟨b, o, none⟩ = (w1).frozen? ⟨b, o, none⟩)) w4) := held_of HB_w4.out
      refine HG.on 11 138 hA0.out ?_
      try simp only [Act.put, List.setIfInBounds_toArray, List.set_cons_zero, List.set_cons_succ]
      clear hA0 gX zX
      refine wpHd_tail (by kernel_rfl) ?_
      simp only [List.drop_succ_cons, List.drop_zero]
      go_upto_region 27 with (fail)
      rw [HS.out]
      obtain ⟨hd, hhd⟩ : ∃ x, x = octs (rs.length : Int) 1 ++ octs fl 1 := ⟨_, rfl⟩
      rw [← hhd]
      have HHL := Hm (show hd.length ≤ 2 by rw [hhd]; simp only [List.length_append, octs_len]; omega)
      have HHD := Hm (show bodyW (⟨k, x, st, n, ⟨o, v, nm, id, cols⟩, ⟨kd, ao, av, old, b, aa, rs, fl⟩⟩ : Msg) = hd ++ refsW rs by rw [HBD.out, hhd]; simp only [List.append_assoc])
      clear hhd s1 s2 HB_w3 HO HV HS
      go_wp2
      go_loopg [7, 10] rs.length (fun y t i wr => ∃ j : Nat, y + j = rs.length ∧ t = .string (strOfNums (hd ++ refsW (rs.take j))) ∧ i = .int .i64 j ∧ Hid (Ext w1 wr))
      case atStart => exact ⟨0, rfl, by rw [List.take_zero]; show _ = Value.string (strOfNums (_ ++ [])); rw [List.append_nil], rfl, HB_w4⟩
      case round =>
        obtain ⟨j, hj, rfl, rfl, hE⟩ := hrel
        have HX2 := Hm (HX1.out.ext hE.out)
        have gX := HX2.out.cell
        have zX := HX2.out.lt
        by_cases hlt : j < rs.length
        · obtain ⟨b', o', rfl, hb2, hx2⟩ := HP.out.2.r.at_ (i := j) (by simpa using hlt)
          obtain ⟨f0, f1⟩ := Rf.at_ hlt hx2 hb2 (HE1.out.trans hE.out)
          have hbw : b' < wr.heap.size := Nat.lt_of_lt_of_le hb2 (HE1.out.trans hE.out).size
          have HCT := Hm (refsW_take hlt)
          have HRB := Hm (HOK.out.rs _ (List.getElem_mem hlt))
          have HLL := Hm (refsW_len (rs.take j))
          obtain ⟨r, hr⟩ : ∃ r, r = rs[j]'hlt := ⟨_, rfl⟩
          rw [← hr] at f0 f1 HCT HRB
          clear hr hx2 hb2
          have HLT := Hm hlt
          have i1 : (j : Int) < (rs.length : Int) := by omega
          have HV := Hm (fun W => rref20_any r.o r.v W HRB.out.1 HRB.out.2)
          obtain ⟨t, ht⟩ : ∃ t, t = strOfNums (hd ++ refsW (rs.take j)) := ⟨_, rfl⟩
          have h5 : t.size ≤ 1000000 := by
            rw [ht, strO_size, List.length_append, HLL.out, List.length_take]
            have h3 := HHL.out
            omega
          rw [← ht]
          have s2 := strO_size (refW r.o r.v)
          unfold refW at s2
          rw [List.length_append, octs_len, octs_len] at s2
          change (strOfNums (refW r.o r.v)).size = _ at s2
          have HS := Hm (show t ++ strOfNums (refW r.o r.v) = strOfNums (hd ++ refsW (rs.take (j + 1))) by rw [HCT.out, ht, strO_app, List.append_assoc])
          clear ht
          obtain ⟨S2, hS2⟩ : ∃ S, S = strOfNums (refW r.o r.v) := ⟨_, rfl⟩
          rw [← hS2] at s2 HV HS
          clear hS2
          go_wp2_with (go_at_call 49; refine (HV.out _).mono ?_; rintro e w2 ⟨rfl, hb2⟩)
          rw [HS.out]
          go_roundg (rs.length - (j + 1))
          case measure => have := HLT.out; omega
          case rel => exact ⟨j + 1, Nat.sub_add_cancel HLT.out, rfl, by go_num, Hm (hE.out.trans (by exact eX))⟩
        · obtain rfl : j = rs.length := by omega
          rw [List.take_length, ← HHD.out]
          go_wp2
          go_meet
          case rel => exact ⟨rfl, hE⟩
    have q4' : (k == 84) = false := by simpa using q4
    have HBD := Hm (show bodyW (⟨k, x, st, n, ⟨o, v, nm, id, cols⟩, ⟨kd, ao, av, old, b, aa, rs, fl⟩⟩ : Msg) = rowsW k ao av old b aa from (if_neg q1).trans ((if_neg q2).trans ((if_neg q3).trans (if_neg q4))))
    have HOL := Hm (show 0 ≤ old ∧ old ≤ 2 from ⟨HOK.out.wk.old, by
      obtain ⟨e1, e2⟩ := HVE.out q1 q2 q3
      refine ev_old e2 ?_
      rw [e1]
      unfold wkind
      dsimp only
      intro h
      (repeat' split at h) <;> omega⟩)
    clear q1 q2 q3
    have HO := Hm (fun W => rref20_any ao av W HOK.out.ao HOK.out.av)
    have HIB := Hm (fun l W (h : Ext w W) => rimage20_any l b ba bc W (HP.out.2.b.ext h) HOK.out.sm.b HTB.out)
    have HIA := Hm (fun W (h : Ext w W) => rimage20_any 78 aa aad ac W (HP.out.2.a.ext h) HOK.out.sm.a HTA.out)
    have LB := Hm (fun l => Nat.le_trans (Nat.le_of_eq (strO_size (imgW l b))) (imgW_len l b HOK.out.wb))
    have LA := Hm (Nat.le_trans (Nat.le_of_eq (strO_size (imgW 78 aa))) (imgW_len 78 aa HOK.out.wa))
    have hnb : b.length ≤ 1000 := HOK.out.sm.b
    have hna : aa.length ≤ 1000 := HOK.out.sm.a
    have s1 := strO_size (refW ao av)
    unfold refW at s1
    rw [List.length_append, octs_len, octs_len] at s1
    change (strOfNums (refW ao av)).size = _ at s1
    obtain ⟨ho0, ho2⟩ := HOL.out
    have HRW := Hm (show rowsW k ao av old b aa = refW ao av ++ ((if old = 1 then imgW 75 b else if old = 2 then imgW 79 b else []) ++ (if k = 68 then [] else imgW 78 aa)) from rfl)
    obtain ⟨S1, hS1⟩ : ∃ S, S = strOfNums (refW ao av) := ⟨_, rfl⟩
    rw [← hS1] at s1 HO
    have HS1 := Hm hS1
    clear hS1
    obtain ⟨IA, hIA⟩ : ∃ S, S = strOfNums (imgW 78 aa) := ⟨_, rfl⟩
    rw [← hIA] at HIA LA
    have HIAE := Hm hIA
    clear hIA
    have la : IA.size ≤ 4000000 := by have := LA.out; omega
    have hold : old = 0 ∨ old = 1 ∨ old = 2 := by omega
    clear ho0 ho2
    rcases hold with rfl | rfl | rfl
    · by_cases hk : k = 68
      · have hk' : (k != 68) = false := by simpa using hk
        have HS := Hm (show S1 = strOfNums (bodyW (⟨k, x, st, n, ⟨o, v, nm, id, cols⟩, ⟨kd, ao, av, 0, b, aa, rs, fl⟩⟩ : Msg)) by
          rw [HBD.out, HRW.out, HS1.out]
          simp only [if_pos hk, if_neg (show ¬ (0 : Int) = 1 by decide), if_neg (show ¬ (0 : Int) = 2 by decide)]
          simp)
        clear hk HBD HRW HIB LB
        go_upto_region 9 with (go_at_call 49; refine (HO.out _).mono ?_; rintro e w2 ⟨rfl, hb2⟩; have HB2 := Hm (show Ext w1 w2 by exact eX); have HX2 := Hm (HX1.out.ext hb2); clear gX zX hb2; have gX := HX2.out.cell; have zX := HX2.out.lt)
        go_wp2
        rw [HS.out]
        go_meet
        case rel => exact ⟨rfl, Hm ((HB2.out).trans (by exact eX))⟩
      · have hk' : (k != 68) = true := by simpa using hk
        have HS := Hm (show S1 ++ IA = strOfNums (bodyW (⟨k, x, st, n, ⟨o, v, nm, id, cols⟩, ⟨kd, ao, av, 0, b, aa, rs, fl⟩⟩ : Msg)) by
          rw [HBD.out, HRW.out, HS1.out, HIAE.out]
          simp only [strO_app, if_neg hk, if_neg (show ¬ (0 : Int) = 1 by decide), if_neg (show ¬ (0 : Int) = 2 by decide)]
          simp)
        clear hk HBD HRW HIB LB
        go_upto_region 9 with (go_at_call 49; refine (HO.out _).mono ?_; rintro e w2 ⟨rfl, hb2⟩; have HB2 := Hm (show Ext w1 w2 by exact eX); have HX2 := Hm (HX1.out.ext hb2); clear gX zX hb2; have gX := HX2.out.cell; have zX := HX2.out.lt)
        go_wp2_with (go_at_call 51; refine (HIA.out _ (HE1.out.trans ((HB2.out).trans (by exact eX)))).mono ?_; rintro e w4 ⟨rfl, hb4⟩)
        rw [HS.out]
        go_meet
        case rel => exact ⟨rfl, Hm ((HB2.out).trans (by exact eX))⟩
    · by_cases hk : k = 68
      · have hk' : (k != 68) = false := by simpa using hk
        obtain ⟨IB, hIB⟩ : ∃ S, S = strOfNums (imgW 75 b) := ⟨_, rfl⟩
        have HIB2 := Hm (HIB.out 75)
        have lb0 := LB.out 75
        rw [← hIB] at HIB2 lb0
        have lb : IB.size ≤ 4000000 := by omega
        have lT : (S1 ++ IB).size ≤ 4000008 := by rw [ByteArray.size_append]; omega
        have HS := Hm (show S1 ++ IB = strOfNums (bodyW (⟨k, x, st, n, ⟨o, v, nm, id, cols⟩, ⟨kd, ao, av, 1, b, aa, rs, fl⟩⟩ : Msg)) by
          rw [HBD.out, HRW.out, HS1.out, hIB]
          simp only [strO_app, if_pos hk, if_true]
          simp)
        clear hIB
        clear hk HBD HRW HIB LB
        go_upto_region 8 with (go_at_call 49; refine (HO.out _).mono ?_; rintro e w2 ⟨rfl, hb2⟩; have HB2 := Hm (show Ext w1 w2 by exact eX); have HX2 := Hm (HX1.out.ext hb2); clear gX zX hb2; have gX := HX2.out.cell; have zX := HX2.out.lt)
        have hA0 : Hid ((fun w' => Ext (w2) w' ∧ (∀ b o, b < (w2).heap.size → w'.cell? ⟨b, o, none⟩ = (w2).cell? ⟨b, o, none⟩) ∧ (∀ b o, b < (w2).heap.size → w'.frozen? ⟨b, o, none⟩ = (w2).frozen? ⟨b, o, none⟩)) w2.drew) := held_of (by exact eX)
        refine wp_region_head 14 (fun w' => Ext (w2) w' ∧ (∀ b o, b < (w2).heap.size → w'.cell? ⟨b, o, none⟩ = (w2).cell? ⟨b, o, none⟩) ∧ (∀ b o, b < (w2).heap.size → w'.frozen? ⟨b, o, none⟩ = (w2).frozen? ⟨b, o, none⟩)) (by kernel_rfl) (by decide) ?_
        refine HG.on 0 27 hA0.out ?_
        try simp only [Act.put, List.setIfInBounds_toArray, List.set_cons_zero, List.set_cons_succ]
        refine HG.on 1 28 hA0.out ?_
        try simp only [Act.put, List.setIfInBounds_toArray, List.set_cons_zero, List.set_cons_succ]
        refine HG.on 2 29 hA0.out ?_
        try simp only [Act.put, List.setIfInBounds_toArray, List.set_cons_zero, List.set_cons_succ]
        refine HG.on 3 30 hA0.out ?_
        try simp only [Act.put, List.setIfInBounds_toArray, List.set_cons_zero, List.set_cons_succ]
        refine HG.on 4 31 hA0.out ?_
        try simp only [Act.put, List.setIfInBounds_toArray, List.set_cons_zero, List.set_cons_succ]
        refine HG.on 5 32 hA0.out ?_
        try simp only [Act.put, List.setIfInBounds_toArray, List.set_cons_zero, List.set_cons_succ]
        refine HG.on 6 33 hA0.out ?_
        try simp only [Act.put, List.setIfInBounds_toArray, List.set_cons_zero, List.set_cons_succ]
        refine HG.on 7 34 hA0.out ?_
        try simp only [Act.put, List.setIfInBounds_toArray, List.set_cons_zero, List.set_cons_succ]
        (refine wpHd_take (i := 8) (v := ?_) rfl (by kernel_rfl) (by kernel_rfl) (by kernel_rfl) (fun _ _ _ h => h) (Or.inl ⟨by rfl, ?_⟩) hA0.out ?_; rotate_left 1; · (intro w' hS'; go_simp; (try simp only [wrap_0]); (first | rw [ko_1a] | rw [ko_1b]); (try rw [if_pos (by decide)]); try with_reducible rfl))
        refine HG.on 9 36 hA0.out ?_
        try simp only [Act.put, List.setIfInBounds_toArray]
        refine HG.on 10 37 hA0.out ?_
        try simp only [Act.put]
        refine HG.on 11 38 hA0.out ?_
        try simp only [Act.put]
        refine wpHd_one (i := 12) rfl rfl (by kernel_rfl) (fun KK hK => ?_)
        go_simp
        refine (HIB2.out _ (HE1.out.trans (HB2.out.trans (by exact eX)))).mono ?_
        rintro e w3 ⟨rfl, hb_w3⟩
        have HB_w3 := Hm (show Ext w2 w3 by exact eX)
        refine hK.out _ _ (held_of HB_w3.out) (fun hA => ?_)
        clear hK KK hA hA0 hb_w3
        have hA0 : Hid ((fun w' => Ext (w2) w' ∧ (∀ b o, b < (w2).heap.size → w'.cell? ⟨b, o, none⟩ = (w2).cell? ⟨b, o, none⟩) ∧ (∀ b o, b < (w2).heap.size → w'.frozen? ⟨b, o, none⟩ = (w2).frozen? ⟨b, o, none⟩)) w3) := held_of HB_w3.out
        (refine wpHd_take (i := 13) (v := ?_) rfl (by kernel_rfl) (by kernel_rfl) (by kernel_rfl) (fun _ _ _ h => h) (Or.inl ⟨by rfl, ?_⟩) hA0.out ?_; rotate_left 1; · (intro w' hS'; go_simp; (try rw [if_neg (by omega)]); try with_reducible rfl))
        clear hA0 gX zX
        refine wpHd_tail (by kernel_rfl) ?_
        simp only [List.drop_succ_cons, List.drop_zero]
        have HX3 := Hm (HX2.out.ext HB_w3.out)
        have gX := HX3.out.cell
        have zX := HX3.out.lt
        obtain ⟨T, hT⟩ : ∃ T, T = S1 ++ IB := ⟨_, rfl⟩
        rw [← hT] at HS lT ⊢
        clear hT lb lb0
        go_wp2
        rw [HS.out]
        go_meet
        case rel => exact ⟨rfl, Hm ((HB2.out.trans HB_w3.out).trans (by exact eX))⟩
      · have hk' : (k != 68) = true := by simpa using hk
        obtain ⟨IB, hIB⟩ : ∃ S, S = strOfNums (imgW 75 b) := ⟨_, rfl⟩
        have HIB2 := Hm (HIB.out 75)
        have lb0 := LB.out 75
        rw [← hIB] at HIB2 lb0
        have lb : IB.size ≤ 4000000 := by omega
        have lT : (S1 ++ IB).size ≤ 4000008 := by rw [ByteArray.size_append]; omega
        have HS := Hm (show S1 ++ IB ++ IA = strOfNums (bodyW (⟨k, x, st, n, ⟨o, v, nm, id, cols⟩, ⟨kd, ao, av, 1, b, aa, rs, fl⟩⟩ : Msg)) by
          rw [HBD.out, HRW.out, HS1.out, HIAE.out, hIB]
          simp only [strO_app, if_neg hk, if_true]
          simp)
        clear hIB
        clear hk HBD HRW HIB LB
        go_upto_region 8 with (go_at_call 49; refine (HO.out _).mono ?_; rintro e w2 ⟨rfl, hb2⟩; have HB2 := Hm (show Ext w1 w2 by exact eX); have HX2 := Hm (HX1.out.ext hb2); clear gX zX hb2; have gX := HX2.out.cell; have zX := HX2.out.lt)
        have hA0 : Hid ((fun w' => Ext (w2) w' ∧ (∀ b o, b < (w2).heap.size → w'.cell? ⟨b, o, none⟩ = (w2).cell? ⟨b, o, none⟩) ∧ (∀ b o, b < (w2).heap.size → w'.frozen? ⟨b, o, none⟩ = (w2).frozen? ⟨b, o, none⟩)) w2.drew) := held_of (by exact eX)
        refine wp_region_head 14 (fun w' => Ext (w2) w' ∧ (∀ b o, b < (w2).heap.size → w'.cell? ⟨b, o, none⟩ = (w2).cell? ⟨b, o, none⟩) ∧ (∀ b o, b < (w2).heap.size → w'.frozen? ⟨b, o, none⟩ = (w2).frozen? ⟨b, o, none⟩)) (by kernel_rfl) (by decide) ?_
        refine HG.on 0 27 hA0.out ?_
        try simp only [Act.put, List.setIfInBounds_toArray, List.set_cons_zero, List.set_cons_succ]
        refine HG.on 1 28 hA0.out ?_
        try simp only [Act.put, List.setIfInBounds_toArray, List.set_cons_zero, List.set_cons_succ]
        refine HG.on 2 29 hA0.out ?_
        try simp only [Act.put, List.setIfInBounds_toArray, List.set_cons_zero, List.set_cons_succ]
        refine HG.on 3 30 hA0.out ?_
        try simp only [Act.put, List.setIfInBounds_toArray, List.set_cons_zero, List.set_cons_succ]
        refine HG.on 4 31 hA0.out ?_
        try simp only [Act.put, List.setIfInBounds_toArray, List.set_cons_zero, List.set_cons_succ]
        refine HG.on 5 32 hA0.out ?_
        try simp only [Act.put, List.setIfInBounds_toArray, List.set_cons_zero, List.set_cons_succ]
        refine HG.on 6 33 hA0.out ?_
        try simp only [Act.put, List.setIfInBounds_toArray, List.set_cons_zero, List.set_cons_succ]
        refine HG.on 7 34 hA0.out ?_
        try simp only [Act.put, List.setIfInBounds_toArray, List.set_cons_zero, List.set_cons_succ]
        (refine wpHd_take (i := 8) (v := ?_) rfl (by kernel_rfl) (by kernel_rfl) (by kernel_rfl) (fun _ _ _ h => h) (Or.inl ⟨by rfl, ?_⟩) hA0.out ?_; rotate_left 1; · (intro w' hS'; go_simp; (try simp only [wrap_0]); (first | rw [ko_1a] | rw [ko_1b]); (try rw [if_pos (by decide)]); try with_reducible rfl))
        refine HG.on 9 36 hA0.out ?_
        try simp only [Act.put, List.setIfInBounds_toArray]
        refine HG.on 10 37 hA0.out ?_
        try simp only [Act.put]
        refine HG.on 11 38 hA0.out ?_
        try simp only [Act.put]
        refine wpHd_one (i := 12) rfl rfl (by kernel_rfl) (fun KK hK => ?_)
        go_simp
        refine (HIB2.out _ (HE1.out.trans (HB2.out.trans (by exact eX)))).mono ?_
        rintro e w3 ⟨rfl, hb_w3⟩
        have HB_w3 := Hm (show Ext w2 w3 by exact eX)
        refine hK.out _ _ (held_of HB_w3.out) (fun hA => ?_)
        clear hK KK hA hA0 hb_w3
        have hA0 : Hid ((fun w' => Ext (w2) w' ∧ (∀ b o, b < (w2).heap.size → w'.cell? ⟨b, o, none⟩ = (w2).cell? ⟨b, o, none⟩) ∧ (∀ b o, b < (w2).heap.size → w'.frozen? ⟨b, o, none⟩ = (w2).frozen? ⟨b, o, none⟩)) w3) := held_of HB_w3.out
        (refine wpHd_take (i := 13) (v := ?_) rfl (by kernel_rfl) (by kernel_rfl) (by kernel_rfl) (fun _ _ _ h => h) (Or.inl ⟨by rfl, ?_⟩) hA0.out ?_; rotate_left 1; · (intro w' hS'; go_simp; (try rw [if_neg (by omega)]); try with_reducible rfl))
        clear hA0 gX zX
        refine wpHd_tail (by kernel_rfl) ?_
        simp only [List.drop_succ_cons, List.drop_zero]
        have HX3 := Hm (HX2.out.ext HB_w3.out)
        have gX := HX3.out.cell
        have zX := HX3.out.lt
        obtain ⟨T, hT⟩ : ∃ T, T = S1 ++ IB := ⟨_, rfl⟩
        rw [← hT] at HS lT ⊢
        clear hT lb lb0
        go_wp2_with (go_at_call 51; refine (HIA.out _ (HE1.out.trans ((HB2.out.trans HB_w3.out).trans (by exact eX)))).mono ?_; rintro e w4 ⟨rfl, hb4⟩)
        rw [HS.out]
        go_meet
        case rel => exact ⟨rfl, Hm ((HB2.out.trans HB_w3.out).trans (by exact eX))⟩
    · by_cases hk : k = 68
      · have hk' : (k != 68) = false := by simpa using hk
        obtain ⟨IB, hIB⟩ : ∃ S, S = strOfNums (imgW 79 b) := ⟨_, rfl⟩
        have HIB2 := Hm (HIB.out 79)
        have lb0 := LB.out 79
        rw [← hIB] at HIB2 lb0
        have lb : IB.size ≤ 4000000 := by omega
        have lT : (S1 ++ IB).size ≤ 4000008 := by rw [ByteArray.size_append]; omega
        have HS := Hm (show S1 ++ IB = strOfNums (bodyW (⟨k, x, st, n, ⟨o, v, nm, id, cols⟩, ⟨kd, ao, av, 2, b, aa, rs, fl⟩⟩ : Msg)) by
          rw [HBD.out, HRW.out, HS1.out, hIB]
          simp only [strO_app, if_pos hk, if_true, if_neg (show ¬ (2 : Int) = 1 by decide)]
          simp)
        clear hIB
        clear hk HBD HRW HIB LB
        go_upto_region 8 with (go_at_call 49; refine (HO.out _).mono ?_; rintro e w2 ⟨rfl, hb2⟩; have HB2 := Hm (show Ext w1 w2 by exact eX); have HX2 := Hm (HX1.out.ext hb2); clear gX zX hb2; have gX := HX2.out.cell; have zX := HX2.out.lt)
        have hA0 : Hid ((fun w' => Ext (w2) w' ∧ (∀ b o, b < (w2).heap.size → w'.cell? ⟨b, o, none⟩ = (w2).cell? ⟨b, o, none⟩) ∧ (∀ b o, b < (w2).heap.size → w'.frozen? ⟨b, o, none⟩ = (w2).frozen? ⟨b, o, none⟩)) w2.drew) := held_of (by exact eX)
        refine wp_region_head 14 (fun w' => Ext (w2) w' ∧ (∀ b o, b < (w2).heap.size → w'.cell? ⟨b, o, none⟩ = (w2).cell? ⟨b, o, none⟩) ∧ (∀ b o, b < (w2).heap.size → w'.frozen? ⟨b, o, none⟩ = (w2).frozen? ⟨b, o, none⟩)) (by kernel_rfl) (by decide) ?_
        refine HG.on 0 27 hA0.out ?_
        try simp only [Act.put, List.setIfInBounds_toArray, List.set_cons_zero, List.set_cons_succ]
        refine HG.on 1 28 hA0.out ?_
        try simp only [Act.put, List.setIfInBounds_toArray, List.set_cons_zero, List.set_cons_succ]
        refine HG.on 2 29 hA0.out ?_
        try simp only [Act.put, List.setIfInBounds_toArray, List.set_cons_zero, List.set_cons_succ]
        refine HG.on 3 30 hA0.out ?_
        try simp only [Act.put, List.setIfInBounds_toArray, List.set_cons_zero, List.set_cons_succ]
        refine HG.on 4 31 hA0.out ?_
        try simp only [Act.put, List.setIfInBounds_toArray, List.set_cons_zero, List.set_cons_succ]
        refine HG.on 5 32 hA0.out ?_
        try simp only [Act.put, List.setIfInBounds_toArray, List.set_cons_zero, List.set_cons_succ]
        refine HG.on 6 33 hA0.out ?_
        try simp only [Act.put, List.setIfInBounds_toArray, List.set_cons_zero, List.set_cons_succ]
        refine HG.on 7 34 hA0.out ?_
        try simp only [Act.put, List.setIfInBounds_toArray, List.set_cons_zero, List.set_cons_succ]
        (refine wpHd_take (i := 8) (v := ?_) rfl (by kernel_rfl) (by kernel_rfl) (by kernel_rfl) (fun _ _ _ h => h) (Or.inl ⟨by rfl, ?_⟩) hA0.out ?_; rotate_left 1; · (intro w' hS'; go_simp; (try simp only [wrap_1]); (first | rw [ko_2a] | rw [ko_2b]); (try rw [if_pos (by decide)]); try with_reducible rfl))
        refine HG.on 9 36 hA0.out ?_
        try simp only [Act.put, List.setIfInBounds_toArray]
        refine HG.on 10 37 hA0.out ?_
        try simp only [Act.put]
        refine HG.on 11 38 hA0.out ?_
        try simp only [Act.put]
        refine wpHd_one (i := 12) rfl rfl (by kernel_rfl) (fun KK hK => ?_)
        go_simp
        refine (HIB2.out _ (HE1.out.trans (HB2.out.trans (by exact eX)))).mono ?_
        rintro e w3 ⟨rfl, hb_w3⟩
        have HB_w3 := Hm (show Ext w2 w3 by exact eX)
        refine hK.out _ _ (held_of HB_w3.out) (fun hA => ?_)
        clear hK KK hA hA0 hb_w3
        have hA0 : Hid ((fun w' => Ext (w2) w' ∧ (∀ b o, b < (w2).heap.size → w'.cell? ⟨b, o, none⟩ = (w2).cell? ⟨b, o, none⟩) ∧ (∀ b o, b < (w2).heap.size → w'.frozen? ⟨b, o, none⟩ = (w2).frozen? ⟨b, o, none⟩)) w3) := held_of HB_w3.out
        (refine wpHd_take (i := 13) (v := ?_) rfl (by kernel_rfl) (by kernel_rfl) (by kernel_rfl) (fun _ _ _ h => h) (Or.inl ⟨by rfl, ?_⟩) hA0.out ?_; rotate_left 1; · (intro w' hS'; go_simp; (try rw [if_neg (by omega)]); try with_reducible rfl))
        clear hA0 gX zX
        refine wpHd_tail (by kernel_rfl) ?_
        simp only [List.drop_succ_cons, List.drop_zero]
        have HX3 := Hm (HX2.out.ext HB_w3.out)
        have gX := HX3.out.cell
        have zX := HX3.out.lt
        obtain ⟨T, hT⟩ : ∃ T, T = S1 ++ IB := ⟨_, rfl⟩
        rw [← hT] at HS lT ⊢
        clear hT lb lb0
        go_wp2
        rw [HS.out]
        go_meet
        case rel => exact ⟨rfl, Hm ((HB2.out.trans HB_w3.out).trans (by exact eX))⟩
      · have hk' : (k != 68) = true := by simpa using hk
        obtain ⟨IB, hIB⟩ : ∃ S, S = strOfNums (imgW 79 b) := ⟨_, rfl⟩
        have HIB2 := Hm (HIB.out 79)
        have lb0 := LB.out 79
        rw [← hIB] at HIB2 lb0
        have lb : IB.size ≤ 4000000 := by omega
        have lT : (S1 ++ IB).size ≤ 4000008 := by rw [ByteArray.size_append]; omega
        have HS := Hm (show S1 ++ IB ++ IA = strOfNums (bodyW (⟨k, x, st, n, ⟨o, v, nm, id, cols⟩, ⟨kd, ao, av, 2, b, aa, rs, fl⟩⟩ : Msg)) by
          rw [HBD.out, HRW.out, HS1.out, HIAE.out, hIB]
          simp only [strO_app, if_neg hk, if_true, if_neg (show ¬ (2 : Int) = 1 by decide)]
          simp)
        clear hIB
        clear hk HBD HRW HIB LB
        go_upto_region 8 with (go_at_call 49; refine (HO.out _).mono ?_; rintro e w2 ⟨rfl, hb2⟩; have HB2 := Hm (show Ext w1 w2 by exact eX); have HX2 := Hm (HX1.out.ext hb2); clear gX zX hb2; have gX := HX2.out.cell; have zX := HX2.out.lt)
        have hA0 : Hid ((fun w' => Ext (w2) w' ∧ (∀ b o, b < (w2).heap.size → w'.cell? ⟨b, o, none⟩ = (w2).cell? ⟨b, o, none⟩) ∧ (∀ b o, b < (w2).heap.size → w'.frozen? ⟨b, o, none⟩ = (w2).frozen? ⟨b, o, none⟩)) w2.drew) := held_of (by exact eX)
        refine wp_region_head 14 (fun w' => Ext (w2) w' ∧ (∀ b o, b < (w2).heap.size → w'.cell? ⟨b, o, none⟩ = (w2).cell? ⟨b, o, none⟩) ∧ (∀ b o, b < (w2).heap.size → w'.frozen? ⟨b, o, none⟩ = (w2).frozen? ⟨b, o, none⟩)) (by kernel_rfl) (by decide) ?_
        refine HG.on 0 27 hA0.out ?_
        try simp only [Act.put, List.setIfInBounds_toArray, List.set_cons_zero, List.set_cons_succ]
        refine HG.on 1 28 hA0.out ?_
        try simp only [Act.put, List.setIfInBounds_toArray, List.set_cons_zero, List.set_cons_succ]
        refine HG.on 2 29 hA0.out ?_
        try simp only [Act.put, List.setIfInBounds_toArray, List.set_cons_zero, List.set_cons_succ]
        refine HG.on 3 30 hA0.out ?_
        try simp only [Act.put, List.setIfInBounds_toArray, List.set_cons_zero, List.set_cons_succ]
        refine HG.on 4 31 hA0.out ?_
        try simp only [Act.put, List.setIfInBounds_toArray, List.set_cons_zero, List.set_cons_succ]
        refine HG.on 5 32 hA0.out ?_
        try simp only [Act.put, List.setIfInBounds_toArray, List.set_cons_zero, List.set_cons_succ]
        refine HG.on 6 33 hA0.out ?_
        try simp only [Act.put, List.setIfInBounds_toArray, List.set_cons_zero, List.set_cons_succ]
        refine HG.on 7 34 hA0.out ?_
        try simp only [Act.put, List.setIfInBounds_toArray, List.set_cons_zero, List.set_cons_succ]
        (refine wpHd_take (i := 8) (v := ?_) rfl (by kernel_rfl) (by kernel_rfl) (by kernel_rfl) (fun _ _ _ h => h) (Or.inl ⟨by rfl, ?_⟩) hA0.out ?_; rotate_left 1; · (intro w' hS'; go_simp; (try simp only [wrap_1]); (first | rw [ko_2a] | rw [ko_2b]); (try rw [if_pos (by decide)]); try with_reducible rfl))
        refine HG.on 9 36 hA0.out ?_
        try simp only [Act.put, List.setIfInBounds_toArray]
        refine HG.on 10 37 hA0.out ?_
        try simp only [Act.put]
        refine HG.on 11 38 hA0.out ?_
        try simp only [Act.put]
        refine wpHd_one (i := 12) rfl rfl (by kernel_rfl) (fun KK hK => ?_)
        go_simp
        refine (HIB2.out _ (HE1.out.trans (HB2.out.trans (by exact eX)))).mono ?_
        rintro e w3 ⟨rfl, hb_w3⟩
        have HB_w3 := Hm (show Ext w2 w3 by exact eX)
        refine hK.out _ _ (held_of HB_w3.out) (fun hA => ?_)
        clear hK KK hA hA0 hb_w3
        have hA0 : Hid ((fun w' => Ext (w2) w' ∧ (∀ b o, b < (w2).heap.size → w'.cell? ⟨b, o, none⟩ = (w2).cell? ⟨b, o, none⟩) ∧ (∀ b o, b < (w2).heap.size → w'.frozen? ⟨b, o, none⟩ = (w2).frozen? ⟨b, o, none⟩)) w3) := held_of HB_w3.out
        (refine wpHd_take (i := 13) (v := ?_) rfl (by kernel_rfl) (by kernel_rfl) (by kernel_rfl) (fun _ _ _ h => h) (Or.inl ⟨by rfl, ?_⟩) hA0.out ?_; rotate_left 1; · (intro w' hS'; go_simp; (try rw [if_neg (by omega)]); try with_reducible rfl))
        clear hA0 gX zX
        refine wpHd_tail (by kernel_rfl) ?_
        simp only [List.drop_succ_cons, List.drop_zero]
        have HX3 := Hm (HX2.out.ext HB_w3.out)
        have gX := HX3.out.cell
        have zX := HX3.out.lt
        obtain ⟨T, hT⟩ : ∃ T, T = S1 ++ IB := ⟨_, rfl⟩
        rw [← hT] at HS lT ⊢
        clear hT lb lb0
        go_wp2_with (go_at_call 51; refine (HIA.out _ (HE1.out.trans ((HB2.out.trans HB_w3.out).trans (by exact eX)))).mono ?_; rintro e w4 ⟨rfl, hb4⟩)
        rw [HS.out]
        go_meet
        case rel => exact ⟨rfl, Hm ((HB2.out.trans HB_w3.out).trans (by exact eX))⟩
  case rest =>
  obtain ⟨rfl, HE5⟩ := hcut
  clear gX zX
  have HX5 := Hm (HX1.out.ext HE5.out)
  have gX := HX5.out.cell
  have zX := HX5.out.lt
  have s1 := strO_size (bodyW (⟨k, x, st, n, ⟨o, v, nm, id, cols⟩, ⟨kd, ao, av, old, b, aa, rs, fl⟩⟩ : Msg))
  have hbl := HBB.out
  rw [← s1] at hbl
  have HS := Hm (show strOfNums [k] ++ strOfNums (octs (strOfNums (bodyW (⟨k, x, st, n, ⟨o, v, nm, id, cols⟩, ⟨kd, ao, av, old, b, aa, rs, fl⟩⟩ : Msg))).size 4) ++ strOfNums (bodyW (⟨k, x, st, n, ⟨o, v, nm, id, cols⟩, ⟨kd, ao, av, old, b, aa, rs, fl⟩⟩ : Msg)) = strOfNums MW by rw [HB1.out, strO_app, strO_app, s1]; simp)
  obtain ⟨BW, hBW⟩ : ∃ z, z = strOfNums (bodyW (⟨k, x, st, n, ⟨o, v, nm, id, cols⟩, ⟨kd, ao, av, old, b, aa, rs, fl⟩⟩ : Msg)) := ⟨_, rfl⟩
  rw [← hBW] at HS hbl ⊢
  clear hBW s1
  have HN := Hm (fun W => rnum20_any (BW.size : Int) 4 W (by omega) (by omega) (by omega))
  have ul := u64_small (n := (BW.size : Int)) (by omega) (by omega)
  have s4 := strO_size (octs (BW.size : Int) 4)
  rw [octs_len] at s4
  have sk := strO_size [k]
  simp only [List.length_singleton] at sk
  have HE6 := Hm (HE1.out.trans HE5.out)
  obtain ⟨S4, hS4⟩ : ∃ S, S = strOfNums (octs (BW.size : Int) 4) := ⟨_, rfl⟩
  rw [← hS4] at s4 HN HS
  clear hS4
  obtain ⟨SK, hSK⟩ : ∃ S, S = strOfNums [k] := ⟨_, rfl⟩
  rw [← hSK] at sk HS
  have HSK := Hm hSK
  clear hSK
  go_upto_region 31 with (fail)
  have hA0 : Hid ((fun w' => Ext (wc) w' ∧ (∀ b o, b < (wc).heap.size → w'.cell? ⟨b, o, none⟩ = (wc).cell? ⟨b, o, none⟩) ∧ (∀ b o, b < (wc).heap.size → w'.frozen? ⟨b, o, none⟩ = (wc).frozen? ⟨b, o, none⟩)) wc.drew) := held_of (by exact eX)
  refine wp_region_head 11 (fun w' => Ext (wc) w' ∧ (∀ b o, b < (wc).heap.size → w'.cell? ⟨b, o, none⟩ = (wc).cell? ⟨b, o, none⟩) ∧ (∀ b o, b < (wc).heap.size → w'.frozen? ⟨b, o, none⟩ = (wc).frozen? ⟨b, o, none⟩)) (by kernel_rfl) (by decide) ?_
  refine HG.on 0 156 hA0.out ?_
  try simp only [Act.put, List.setIfInBounds_toArray, List.set_cons_zero, List.set_cons_succ]
  refine HG.on 1 157 hA0.out ?_
  try simp only [Act.put, List.setIfInBounds_toArray, List.set_cons_zero, List.set_cons_succ]
  refine HG.on 4 160 hA0.out ?_
  try simp only [Act.put, List.setIfInBounds_toArray, List.set_cons_zero, List.set_cons_succ]
  refine HG.on 5 161 hA0.out ?_
  try simp only [Act.put, List.setIfInBounds_toArray, List.set_cons_zero, List.set_cons_succ]
  refine HG.on 6 162 hA0.out ?_
  try simp only [Act.put, List.setIfInBounds_toArray, List.set_cons_zero, List.set_cons_succ]
  refine HG.on 9 165 hA0.out ?_
  try simp only [Act.put, List.setIfInBounds_toArray, List.set_cons_zero, List.set_cons_succ]
  refine wpHd_two (i := 2) (j := 7) rfl rfl rfl rfl (by kernel_rfl) (fun KK hK => ?_) (fun KK hK => ?_)
  · go_simp
    have hcv : ∀ W, Ext (wc.drew.alloc (.cells #[.int .u8 k] 5)) W → (convert 30 9 (.slice (some ⟨wc.heap.size, 0, none⟩) 1 1)).run Tryz.prog W = .ok (.string SK) W := fun W h => by rw [HSK.out]; exact conv_Sl ((Sl.new wc.drew #[.int .u8 k] 5 1 1 1 [[.int .u8 k]] rfl (by intro xs hxs; simp at hxs; subst hxs; rfl) rfl).ext h)
    refine hK.out _ _ (held_of (by exact eX)) (fun hA => ?_)
    clear hK KK hA
    refine wpHd_str (S' := (fun w' => (fun w' => Ext (wc) w' ∧ (∀ b o, b < (wc).heap.size → w'.cell? ⟨b, o, none⟩ = (wc).cell? ⟨b, o, none⟩) ∧ (∀ b o, b < (wc).heap.size → w'.frozen? ⟨b, o, none⟩ = (wc).frozen? ⟨b, o, none⟩)) w' ∧ Ext (wc.drew.alloc (.cells #[.int .u8 k] 5)) w')) (fun _ h => h.1) _ _ _ _ ?_
    have hB0 : Hid ((fun w' => (fun w' => Ext (wc) w' ∧ (∀ b o, b < (wc).heap.size → w'.cell? ⟨b, o, none⟩ = (wc).cell? ⟨b, o, none⟩) ∧ (∀ b o, b < (wc).heap.size → w'.frozen? ⟨b, o, none⟩ = (wc).frozen? ⟨b, o, none⟩)) w' ∧ Ext (wc.drew.alloc (.cells #[.int .u8 k] 5)) w') (wc.drew.alloc (.cells #[.int .u8 k] 5))) := Hm ⟨held_of (by exact eX), Ext.refl _⟩
    (refine wpHd_take (i := 3) (v := ?_) rfl (by kernel_rfl) (by kernel_rfl) (by kernel_rfl) (fun _ _ _ h => h) (Or.inl ⟨by rfl, ?_⟩) hB0.out ?_; rotate_left 1; · (intro w' hS'; have hq := hcv w' hS'.2; go_simp; try with_reducible rfl))
    refine wpHd_one (i := 7) rfl rfl (by kernel_rfl) (fun KK hK => ?_)
    go_simp
    refine (HN.out _).mono ?_
    rintro e w7 ⟨rfl, hb7⟩
    have HB7 := Hm (show Ext wc w7 by exact eX)
    have hC0 : Hid ((fun w' => (fun w' => Ext (wc) w' ∧ (∀ b o, b < (wc).heap.size → w'.cell? ⟨b, o, none⟩ = (wc).cell? ⟨b, o, none⟩) ∧ (∀ b o, b < (wc).heap.size → w'.frozen? ⟨b, o, none⟩ = (wc).frozen? ⟨b, o, none⟩)) w' ∧ Ext (wc.drew.alloc (.cells #[.int .u8 k] 5)) w') w7) := Hm ⟨held_of HB7.out, hb7⟩
    refine hK.out _ _ hC0.out (fun hA => ?_)
    clear hK KK hA hb7 hB0
    (refine wpHd_take (i := 8) (v := ?_) rfl (by kernel_rfl) (by kernel_rfl) (by kernel_rfl) (fun _ _ _ h => h) (Or.inl ⟨by rfl, ?_⟩) hC0.out ?_; rotate_left 1; · (intro w' hS'; go_simp; (try rw [if_neg (by omega)]); try with_reducible rfl))
    (refine wpHd_take (i := 10) (v := ?_) rfl (by kernel_rfl) (by kernel_rfl) (by kernel_rfl) (fun _ _ _ h => h) (Or.inl ⟨by rfl, ?_⟩) hC0.out ?_; rotate_left 1; · (intro w' hS'; go_simp; (try rw [if_neg (by omega)]); try with_reducible rfl))
    clear hC0 hcv gX zX hA0
    refine wpHd_tail (by kernel_rfl) ?_
    simp only [List.drop_succ_cons, List.drop_zero]
    rw [HS.out]
    have hcs := conv_str (w7) (strOfNums MW)
    go_wp2
    go_ret2
    exact ⟨_, rfl, by exact sl_bW _ _ _, nofun, (HE6.out.trans HB7.out).conv _ _⟩
  · go_simp
    refine (HN.out _).mono ?_
    rintro e w7 ⟨rfl, hb7⟩
    have HC7 := Hm (show Ext wc w7 by exact eX)
    refine hK.out _ _ (held_of HC7.out) (fun hA => ?_)
    clear hK KK hA hb7
    refine wpHd_one (i := 2) rfl rfl (by kernel_rfl) (fun KK hK => ?_)
    go_simp
    have hcv : ∀ W, Ext (w7.alloc (.cells #[.int .u8 k] 5)) W → (convert 30 9 (.slice (some ⟨w7.heap.size, 0, none⟩) 1 1)).run Tryz.prog W = .ok (.string SK) W := fun W h => by rw [HSK.out]; exact conv_Sl ((Sl.new w7 #[.int .u8 k] 5 1 1 1 [[.int .u8 k]] rfl (by intro xs hxs; simp at hxs; subst hxs; rfl) rfl).ext h)
    have HB7 := Hm (show Ext wc (w7.alloc (.cells #[.int .u8 k] 5)) from HC7.out.alloc _)
    refine hK.out _ _ (held_of HB7.out) (fun hA => ?_)
    clear hK KK hA
    refine wpHd_str (S' := (fun w' => (fun w' => Ext (wc) w' ∧ (∀ b o, b < (wc).heap.size → w'.cell? ⟨b, o, none⟩ = (wc).cell? ⟨b, o, none⟩) ∧ (∀ b o, b < (wc).heap.size → w'.frozen? ⟨b, o, none⟩ = (wc).frozen? ⟨b, o, none⟩)) w' ∧ Ext (w7.alloc (.cells #[.int .u8 k] 5)) w')) (fun _ h => h.1) _ _ _ _ ?_
    have hC0 : Hid ((fun w' => (fun w' => Ext (wc) w' ∧ (∀ b o, b < (wc).heap.size → w'.cell? ⟨b, o, none⟩ = (wc).cell? ⟨b, o, none⟩) ∧ (∀ b o, b < (wc).heap.size → w'.frozen? ⟨b, o, none⟩ = (wc).frozen? ⟨b, o, none⟩)) w' ∧ Ext (w7.alloc (.cells #[.int .u8 k] 5)) w') (w7.alloc (.cells #[.int .u8 k] 5))) := Hm ⟨held_of HB7.out, Ext.refl _⟩
    (refine wpHd_take (i := 3) (v := ?_) rfl (by kernel_rfl) (by kernel_rfl) (by kernel_rfl) (fun _ _ _ h => h) (Or.inl ⟨by rfl, ?_⟩) hC0.out ?_; rotate_left 1; · (intro w' hS'; have hq := hcv w' hS'.2; go_simp; try with_reducible rfl))
    (refine wpHd_take (i := 8) (v := ?_) rfl (by kernel_rfl) (by kernel_rfl) (by kernel_rfl) (fun _ _ _ h => h) (Or.inl ⟨by rfl, ?_⟩) hC0.out ?_; rotate_left 1; · (intro w' hS'; go_simp; (try rw [if_neg (by omega)]); try with_reducible rfl))
    (refine wpHd_take (i := 10) (v := ?_) rfl (by kernel_rfl) (by kernel_rfl) (by kernel_rfl) (fun _ _ _ h => h) (Or.inl ⟨by rfl, ?_⟩) hC0.out ?_; rotate_left 1; · (intro w' hS'; go_simp; (try rw [if_neg (by omega)]); try with_reducible rfl))
    clear hC0 hcv gX zX hA0
    refine wpHd_tail (by kernel_rfl) ?_
    simp only [List.drop_succ_cons, List.drop_zero]
    rw [HS.out]
    have hcs := conv_str (w7.alloc (.cells #[.int .u8 k] 5)) (strOfNums MW)
    go_wp2
    go_ret2
    exact ⟨_, rfl, by have h := fun c => sl_bW (w7.alloc (.cells #[.int .u8 k] 5)) (strOfNums MW) c; simp only [World.size_alloc] at h; exact h _, nofun, (HE6.out.trans HB7.out).conv _ _⟩
end Go.Proofs.YtdlhaidlokkmnaaGreatDoor
