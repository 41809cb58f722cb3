/-
A message's bytes: the program's Put.
-/
import Derived.Test.YtdlhaidlokkmnaaGreatDoorP29
set_option maxRecDepth 100000
set_option maxHeartbeats 16000000
namespace Go.Proofs.YtdlhaidlokkmnaaGreatDoor
open Go.RowKit
theorem OB.one {w : World} {g : Nat} {x : Int} (h : Blk w g #[.int .u8 x] 5) : OB w g (.slice (some ⟨g, 0, none⟩) 1 1) [x] :=
  ⟨rfl, .inr ⟨g, 1, #[.int .u8 x], rfl, Nat.le_refl _, h, Nat.le_refl _, by decide, rfl, rfl⟩⟩
theorem WB.fresh (w : World) : WB (w.alloc (.cells #[.slice none 0 0] 118)) w.heap.size none [] := ⟨_, Blk.new w _ _, OB.nil _ _, rfl⟩
theorem put_any (p : ML) (N gc : Nat) (cv : Value) (ps : List RR) (w : World) (hp : p.at 5 K.pc w) (ho : p.ok) (hk : Kin w) (hc : Ca w N gc cv ps) (ht : Tab w) :
    Calls Tryz.prog 18 #[.pointer (some ⟨gc, 0, none⟩), p.agg] w fun e w' => ∃ v, e = .returned (.tuple #[v, .int .i64 (msgE p.m (ps.map RR.r))]) ∧ OB w' w.heap.size v (msgW p.m (ps.map RR.r)) ∧ Ext w w' := by
  have HMR := Hm (fun W (h : Ext w W) => mright_any p N gc cv ps W (hp.ext h) ho.len ho.cap ho.nm ho.cs ho.sm ho.wk ho.k0 ho.k1 (hk.ext h) (hc.ext h))
  have HBL := Hm (fun (h : msgE p.m (ps.map RR.r) = 0) => body_len (m := p.m) h ho.sm ho.wb ho.wa)
  have HRR := Hm (fun (h : msgE p.m (ps.map RR.r) = 0) => msg_rel (m := p.m) h)
  have HP := Hm hp
  have HOK := Hm ho
  have HT := Hm ht
  have HMW := Hm (show msgW p.m (ps.map RR.r) = if msgE p.m (ps.map RR.r) ≠ 0 then [] else p.k :: (octs (bodyW p.m).length 4 ++ bodyW p.m) from rfl)
  clear hp ho hk hc ht
  obtain ⟨MW, hMW⟩ : ∃ M, M = msgW p.m (ps.map RR.r) := ⟨_, rfl⟩
  obtain ⟨E, hE⟩ : ∃ E, E = msgE p.m (ps.map RR.r) := ⟨_, rfl⟩
  rw [← hMW, ← hE] at HMW
  rw [← hMW, ← hE]
  rw [← hE] at HMR HBL HRR
  clear hE hMW
  obtain ⟨k, x, st, n, ⟨⟨o, v, nm, id, cols⟩, ca, cc⟩, ⟨⟨kd, ao, av, old, b, aa, rs, fl⟩, ba, bc, aad, ac, ra, rc⟩⟩ := p
  rw [show (ML.agg (⟨k, x, st, n, ⟨⟨o, v, nm, id, cols⟩, ca, cc⟩, ⟨⟨kd, ao, av, old, b, aa, rs, fl⟩, ba, bc, aad, ac, ra, rc⟩⟩ : ML)) = .agg #[.int .u8 k, .int .u32 x, .int .u64 st, .int .u32 n, .int .u32 o, .int .u32 v, .string nm, .int .u8 id, .slice ca cols.length cc, .int .u8 kd, .int .u32 ao, .int .u32 av, .int .u8 old, .slice ba b.length bc, .slice aad aa.length ac, .slice ra rs.length rc, .int .u8 fl] from rfl] at HMR ⊢
  unfold ML.m at HMW HBL HRR
  dsimp only at HMW HBL HRR
  have HX0 := Hm (Blk.new w #[.int .u8 k, .int .u32 x, .int .u64 st, .int .u32 n, .int .u32 o, .int .u32 v, .string nm, .int .u8 id, .slice ca cols.length cc, .int .u8 kd, .int .u32 ao, .int .u32 av, .int .u8 old, .slice ba b.length bc, .slice aad aa.length ac, .slice ra rs.length rc, .int .u8 fl] 76)
  by_cases hE : E = 0
  case neg =>
    have hE1 : (E != 0) = true := by simpa using hE
    have HR := Hm (HMW.out.trans (if_pos hE))
    clear HMW HBL HRR HP HOK HT hE
    go_enter Tryz.func18, Tryz.ntmps18
    go_wp2_with (first
      | (refine wpList_load_to rfl 76 (.tmp 3) rfl _ _ ?e1 (load17 HX0.out) ?_; (case e1 => go_simp))
      | (go_at_call 36; refine (HMR.out _ (by exact eX)).mono ?_; rintro e w1 ⟨rfl, hb1⟩))
    go_ret2
    exact ⟨_, rfl, by rw [HR.out]; exact OB.nil _ _, by exact eX⟩
  subst hE
  have HB1 := Hm (HMW.out.trans (if_neg (fun h => h rfl)))
  have hbl := HBL.out rfl
  have HRL := Hm (HRR.out rfl)
  clear HMW HBL HRR
  go_enter Tryz.func18, Tryz.ntmps18
  go_upto_region 4 with (first
    | (refine wpList_load_to rfl 76 (.tmp 3) rfl _ _ ?e1 (load17 HX0.out) ?_; (case e1 => go_simp))
    | (go_at_call 36; refine (HMR.out _ (by exact eX)).mono ?_; rintro e w1 ⟨rfl, hb1⟩; have HE1 := Hm (show Ext w w1 by exact eX); have HX1 := Hm (HX0.out.ext hb1); clear hb1))
  clear HX0 HMR
  have HW3 := Hm (WB.fresh w1)
  have HX3 := Hm (show Bx (w1.alloc (.cells #[.slice none 0 0] 118)) w1.heap.size none w.heap.size #[.int .u8 k, .int .u32 x, .int .u64 st, .int .u32 n, .int .u32 o, .int .u32 v, .string nm, .int .u8 id, .slice ca cols.length cc, .int .u8 kd, .int .u32 ao, .int .u32 av, .int .u8 old, .slice ba b.length bc, .slice aad aa.length ac, .slice ra rs.length rc, .int .u8 fl] 76 from ⟨HX1.out.alloc _, fun e => by have := HX1.out.lt; rcases e with e | e; omega; cases e⟩)
  have HE3 := Hm (show Ext w (w1.alloc (.cells #[.slice none 0 0] 118)) from HE1.out.alloc _)
  have HG := Hm (show w.heap.size < w1.heap.size from HX1.out.lt)
  have HGS := Hm (show w1.heap.size < (w1.alloc (.cells #[.slice none 0 0] 118)).heap.size by simp)
  go_upto_region 5 with (fail)
  obtain ⟨w3, hw3⟩ : ∃ W, W = w1.alloc (.cells #[.slice none 0 0] 118) := ⟨_, rfl⟩
  obtain ⟨G, hG⟩ : ∃ G, G = w1.heap.size := ⟨_, rfl⟩
  rw [← hw3] at HW3 HX3 HE3 HGS ⊢
  rw [← hG] at HW3 HX3 HG HGS ⊢
  clear hw3 hG HX1 HE1
  obtain ⟨X, hX⟩ : ∃ X, X = w.heap.size := ⟨_, rfl⟩
  rw [← hX] at HX3 HG ⊢
  have gX := HX3.out.1.cell
  have zX := HX3.out.1.lt
  have HXX := Hm hX
  clear hX
  have ux := HOK.out.x.u64
  have un := HOK.out.n.u64
  have x0 : 0 ≤ x := HOK.out.x.1
  have n0 : 0 ≤ n := HOK.out.n.1
  have st0 : 0 ≤ st := HOK.out.st
  have hle : w.heap.size ≤ G := by have := HG.out; have := HXX.out; omega
  have HLE := Hm hle
  clear hle
  go_upto_block 0 with (fail)
  go_cut [] (fun wx => ∃ q', Hid (WB wx G q' (bodyW (⟨k, x, st, n, ⟨o, v, nm, id, cols⟩, ⟨kd, ao, av, old, b, aa, rs, fl⟩⟩ : Msg))) ∧ Hid (Wr w3 wx G none q'))
  case first =>
    by_cases q1 : k = 66
    · have q1' : (k == 66) = true := by simpa using q1
      have HBD := Hm (show bodyW (⟨k, x, st, n, ⟨o, v, nm, id, cols⟩, ⟨kd, ao, av, old, b, aa, rs, fl⟩⟩ : Msg) = octs x 4 ++ octs st 8 from if_pos q1)
      clear q1
      go_upto_region 9 with (go_at_call 37; refine (number_any G none [] x 4 _ HW3.out (by simp) (by omega) x0).mono ?_; rintro e w4 ⟨rfl, q4, hw4, hr4⟩; have HW4 := Hm hw4; have HR4 := Hm hr4; have HX4 := Hm (HX3.out.wr hr4); clear hw4 hr4 gX zX)
      have gX := HX4.out.1.cell
      have zX := HX4.out.1.lt
      go_wp2_with (go_at_call 37; refine (number_any G q4 _ st 8 _ HW4.out (by simp [octs_len]) (by omega) st0).mono ?_; rintro e w5 ⟨rfl, q5, hw5, hr5⟩; have HW5 := Hm hw5; have HR5 := Hm (HR4.out.trans hr5); clear hw5 hr5 gX zX)
      go_meet
      case rel => exact ⟨q5, Hm (by rw [HBD.out]; simpa using HW5.out), HR5⟩
    have q1' : (k == 66) = false := by simpa using q1
    by_cases q2 : k = 67
    · have q2' : (k == 67) = true := by simpa using q2
      have HBD := Hm (show bodyW (⟨k, x, st, n, ⟨o, v, nm, id, cols⟩, ⟨kd, ao, av, old, b, aa, rs, fl⟩⟩ : Msg) = octs x 4 ++ octs n 4 from (if_neg q1).trans (if_pos q2))
      clear q1 q2
      go_upto_region 12 with (go_at_call 37; refine (number_any G none [] x 4 _ HW3.out (by simp) (by omega) x0).mono ?_; rintro e w4 ⟨rfl, q4, hw4, hr4⟩; have HW4 := Hm hw4; have HR4 := Hm hr4; have HX4 := Hm (HX3.out.wr hr4); clear hw4 hr4 gX zX)
      have gX := HX4.out.1.cell
      have zX := HX4.out.1.lt
      go_wp2_with (go_at_call 37; refine (number_any G q4 _ n 4 _ HW4.out (by simp [octs_len]) (by omega) n0).mono ?_; rintro e w5 ⟨rfl, q5, hw5, hr5⟩; have HW5 := Hm hw5; have HR5 := Hm (HR4.out.trans hr5); clear hw5 hr5 gX zX)
      go_meet
      case rel => exact ⟨q5, Hm (by rw [HBD.out]; simpa using HW5.out), HR5⟩
    have q2' : (k == 67) = false := by simpa using q2
    by_cases q3 : k = 82
    · have q3' : (k == 82) = true := by simpa using q3
      have HBD := Hm (show bodyW (⟨k, x, st, n, ⟨o, v, nm, id, cols⟩, ⟨kd, ao, av, old, b, aa, rs, fl⟩⟩ : Msg) = relW ⟨o, v, nm, id, cols⟩ from (if_neg q1).trans ((if_neg q2).trans (if_pos q3)))
      have hr := HRL.out q3
      have h4 := Rl.right_nm hr
      have HC := Hm (Rl.right_wr hr)
      dsimp only at h4 HC
      clear q1 q2 q3 hr
      have HRE := Hm (fun W (h : Ext w W) hw => wrel_any G none [] o v nm id cols ca cc w W hw h HLE.out (by simp) HP.out.1 HOK.out.len HOK.out.o HOK.out.v (by omega) HOK.out.id HC.out)
      clear h4
      go_wp2_with (go_at_call 38; refine (HRE.out _ HE3.out HW3.out).mono ?_; rintro e w5 ⟨rfl, q5, hw5, hr5⟩; have HW5 := Hm hw5; have HR5 := Hm hr5; clear hw5 hr5 gX zX)
      go_meet
      case rel => exact ⟨q5, Hm (by rw [HBD.out]; simpa using HW5.out), HR5⟩
    have q3' : (k == 82) = false := by simpa using q3
    by_cases q4 : k = 84
    · have q4' : (k == 84) = true := by simpa using q4
      have HBD := Hm (show bodyW (⟨k, x, st, n, ⟨o, v, nm, id, cols⟩, ⟨kd, ao, av, old, b, aa, rs, fl⟩⟩ : Msg) = octs rs.length 1 ++ (octs fl 1 ++ refsW rs) from (if_neg q1).trans ((if_neg q2).trans ((if_neg q3).trans (if_pos q4))))
      clear q1 q2 q3 q4
      have hrl : rs.length ≤ 1000 := HOK.out.sm.r
      have uf := u64_small (n := fl) HOK.out.fl.1 (by have := HOK.out.fl.2; dsimp only at this; omega)
      have ul := u64_small (n := (rs.length : Int)) (by omega) (by omega)
      have f0 : 0 ≤ fl := HOK.out.fl.1
      go_upto_region 17 with (go_at_call 37; refine (number_any G none [] rs.length 1 _ HW3.out (by simp) (by omega) (by omega)).mono ?_; rintro e w4 ⟨rfl, q4, hw4, hr4⟩; have HW4 := Hm hw4; have HR4 := Hm hr4; have HX4 := Hm (HX3.out.wr hr4); clear hw4 hr4 gX zX)
      have gX := HX4.out.1.cell
      have zX := HX4.out.1.lt
      go_upto_region 18 with (go_at_call 37; refine (number_any G q4 _ fl 1 _ HW4.out (by simp [octs_len]) (by omega) f0).mono ?_; rintro e w5 ⟨rfl, q5, hw5, hr5⟩; have HW5 := Hm hw5; have HR5 := Hm (HR4.out.trans hr5); have HX5 := Hm (HX4.out.wr hr5); clear hw5 hr5 gX zX)
      have gX := HX5.out.1.cell
      have zX := HX5.out.1.lt
      clear HX4 HW4 HR4
      have HEE := Hm (fun q' W (k : Wr w3 W G none q') => Wr.ext HE3.out HW3.out HLE.out k)
      obtain ⟨hd, hhd⟩ : ∃ x, x = [] ++ octs (rs.length : Int) 1 ++ octs fl 1 := ⟨_, rfl⟩
      rw [← hhd] at HW5
      have HHL := Hm (show hd.length ≤ 2 by rw [hhd]; simp [octs_len])
      have HHD := Hm hhd
      clear hhd
      go_wp2
      go_loopg [72] rs.length (fun y i wr => ∃ (j : Nat) (q' : Option Nat), y + j = rs.length ∧ i = .int .i64 j ∧ Hid (WB wr G q' (hd ++ refsW (rs.take j))) ∧ Hid (Wr w3 wr G none q'))
      case atStart => exact ⟨0, q5, rfl, rfl, Hm (by rw [List.take_zero]; exact (List.append_nil _).symm ▸ HW5.out), HR5⟩
      case round =>
        obtain ⟨j, q', hj, rfl, hW, hR⟩ := hrel
        clear gX zX
        by_cases hlt : j < rs.length
        · obtain ⟨b', o', rfl, hb2, hx2⟩ := HP.out.2.r.at_ (i := j) (by simpa using hlt)
          have HE := Hm (HEE.out _ _ hR.out)
          obtain ⟨f0, f1⟩ := Rf.at_ hlt hx2 hb2 HE.out
          have hbw : b' < wr.heap.size := Nat.lt_of_lt_of_le hb2 HE.out.size
          have HCT := Hm (refsW_take hlt)
          have HRB := Hm (HOK.out.rs _ (List.getElem_mem hlt))
          have HLL := Hm (refsW_len (rs.take j))
          obtain ⟨r, hr⟩ : ∃ r, r = rs[j]'hlt := ⟨_, rfl⟩
          rw [← hr] at f0 f1 HCT HRB
          clear hr hx2 hb2
          have HLT := Hm hlt
          have i1 : (j : Int) < (rs.length : Int) := by omega
          have HW7 := Hm (hW.out.ext ((Ext.refl wr).alloc (.cells #[.int .u32 r.o, .int .u32 r.v] 66)))
          have HX7 := Hm (Bx.new hW.out #[.int .u32 r.o, .int .u32 r.v] 66)
          have HR7 := Hm (hR.out.post ((Ext.refl wr).alloc (.cells #[.int .u32 r.o, .int .u32 r.v] 66)))
          go_upto_region 21 with (fail)
          clear f0 f1 hbw
          have gC := HX7.out.1.cell
          have zC := HX7.out.1.lt
          go_wp2_with (go_at_call 39; refine (wref_any G q' _ r.o r.v _ HW7.out (by have := HLL.out; have := HHL.out; rw [List.length_append]; rw [List.length_take] at *; omega) HRB.out.1 HRB.out.2).mono ?_; rintro e w8 ⟨rfl, q8, hw8, hr8⟩; have HW8 := Hm hw8; have HR8 := Hm (HR7.out.trans hr8); clear hw8 hr8 gC zC)
          go_roundg (rs.length - (j + 1))
          case measure => have := HLT.out; omega
          case rel => exact ⟨j + 1, q8, Nat.sub_add_cancel HLT.out, by go_num, Hm (by rw [HCT.out, ← List.append_assoc]; exact HW8.out), HR8⟩
        · obtain rfl : j = rs.length := by omega
          rw [List.take_length, HHD.out] at hW
          go_wp2
          go_meet
          case rel => exact ⟨q', Hm (by rw [HBD.out]; simpa using hW.out), hR⟩
    have q4' : (k == 84) = false := by simpa using q4
    have HBD := Hm (show bodyW (⟨k, x, st, n, ⟨o, v, nm, id, cols⟩, ⟨kd, ao, av, old, b, aa, rs, fl⟩⟩ : Msg) = rowsW k ao av old b aa from (if_neg q1).trans ((if_neg q2).trans ((if_neg q3).trans (if_neg q4))))
    clear q1 q2 q3 q4
    have HRO := Hm (fun W (h : Ext w W) hw => wrows_any G none [] k x st n o v nm id cols ca cc kd ao av old b aa rs ba aad ra bc ac rc fl w W hw h HLE.out (by simp) HP.out.2.b HP.out.2.a HOK.out.sm.b HOK.out.sm.a HOK.out.wb HOK.out.wa HOK.out.ao HOK.out.av HT.out)
    clear gX zX
    go_wp2_with (first
      | (refine wpList_load_to rfl 76 (.tmp 3) rfl _ _ ?e1 (load17 HX3.out.1) ?_; (case e1 => go_simp))
      | (go_at_call 40; refine (HRO.out _ HE3.out HW3.out).mono ?_; rintro e w5 ⟨rfl, q5, hw5, hr5⟩; have HW5 := Hm hw5; have HR5 := Hm hr5; clear hw5 hr5))
    go_meet
    case rel => exact ⟨q5, Hm (by rw [HBD.out]; simpa using HW5.out), HR5⟩
  case rest =>
  obtain ⟨q', HW4, HR4⟩ := hcut
  have HE4 := Hm (Wr.ext HE3.out HW3.out HLE.out HR4.out)
  have HX4 := Hm (HX3.out.wr HR4.out)
  clear gX zX HX3 HR4 HRL HP HOK HT HW3 HE3 ux un x0 n0 st0
  have gX := HX4.out.1.cell
  have zX := HX4.out.1.lt
  obtain ⟨BW, hBW⟩ : ∃ z, z = bodyW (⟨k, x, st, n, ⟨o, v, nm, id, cols⟩, ⟨kd, ao, av, old, b, aa, rs, fl⟩⟩ : Msg) := ⟨_, rfl⟩
  rw [← hBW] at HW4 HB1 hbl
  clear hBW
  have HGE := Hm (show G < wc.heap.size from HW4.out.lt)
  go_upto_region 24 with (fail)
  obtain ⟨A, hA⟩ : ∃ A, A = wc.heap.size := ⟨_, rfl⟩
  obtain ⟨w5, hw5⟩ : ∃ W, W = (wc.alloc (.cells #[.int .u8 k] 5)).alloc (.cells #[.slice (some ⟨wc.heap.size, 0, none⟩) 1 1] 118) := ⟨_, rfl⟩
  have HE5 := Hm (show Ext wc w5 by rw [hw5]; exact ((Ext.refl wc).alloc _).alloc _)
  have HBB := Hm (show Blk w5 wc.heap.size #[.int .u8 k] 5 by rw [hw5]; exact (Blk.new wc #[.int .u8 k] 5).alloc _)
  have HBG := Hm (show Blk w5 (wc.heap.size + 1) #[.slice (some ⟨wc.heap.size, 0, none⟩) 1 1] 118 by rw [hw5]; exact Blk.new' (w := wc.alloc (.cells #[.int .u8 k] 5)) _ _ (by simp))
  have HSZ := Hm (show w5.heap.size = wc.heap.size + 2 by rw [hw5]; simp)
  rw [← hw5]
  rw [← hA] at HBB HBG HSZ HGE ⊢
  have hle5 : w.heap.size ≤ A := by rw [hA]; exact HE4.out.size
  have HLE5 := Hm hle5
  have HAE := Hm hA
  clear hw5 hA hle5 gX zX
  have HWG := Hm (show WG w5 A (A + 1) (some A) [k] from ⟨_, HBG.out, OB.one HBB.out, fun e => by have e : some A = some (A + 1) := e; injection e with e; omega, rfl⟩)
  have HW5 := Hm (HW4.out.ext HE5.out)
  obtain ⟨v5, hb5, ho5, hq5⟩ := HW5.out
  obtain ⟨va, vc, rfl⟩ := ho5.shape
  obtain ⟨lv, hlv⟩ : ∃ L, L = BW.length := ⟨_, rfl⟩
  rw [← hlv] at hb5 ho5 hq5 HB1 hbl
  have HB5 := Hm hb5
  have HO5 := Hm ho5
  have HLV := Hm hlv
  have gG := hb5.cell0
  have zG := hb5.lt
  have HNA := Hm (show ∀ b, (Value.slice va lv vc).ownBlock = some b → b < A from fun b e => by have := (HW4.out.qlt (hq5 ▸ e)).2; have := HAE.out; omega)
  clear hb5 ho5 hlv hq5 HW4 HBB HBG
  have ul := u64_small (n := (lv : Int)) (by omega) (by omega)
  go_upto_region 25 with (go_at_call 37; refine (number_gen A (A + 1) (some A) [k] lv 4 _ HWG.out (by have := HSZ.out; omega) (by simp) (by omega) (by omega)).mono ?_; rintro e w6 ⟨rfl, q6, hw6, hr6⟩; have HW6 := Hm hw6; have HR6 := Hm hr6; clear hw6 hr6 gG zG)
  have HB6 := Hm (HB5.out.wr HR6.out (fun e => by have := HGE.out; rcases e with e | e; omega; injection e with e; omega))
  have HO6 := Hm (HO5.out.kp HR6.out.1 (fun b e h => by have h1 := HNA.out b e; have h : b = A + 1 ∨ some A = some b := h; rcases h with h | h; omega; injection h with h; omega))
  obtain ⟨v6, hb6, ho6, hn6, rfl⟩ := HW6.out
  obtain ⟨a6, c6, rfl⟩ := ho6.shape
  obtain ⟨l6, hl6⟩ : ∃ L, L = ([k] ++ octs (lv : Int) 4).length := ⟨_, rfl⟩
  rw [← hl6] at hb6 ho6 hn6 HR6
  have HL6 := Hm (show l6 = 5 by rw [hl6]; simp [octs_len])
  have HBW6 := Hm hb6
  have HOW6 := Hm ho6
  have HN6 := Hm hn6
  clear hb6 ho6 hn6 hl6 HW6 HB5 HO5
  have hA0 : Hid ((fun w' => w'.cell? ⟨G, 0, none⟩ = some (.slice va lv vc) ∧ w'.cell? ⟨A + 1, 0, none⟩ = some (.slice a6 l6 c6) ∧ G < w'.heap.size ∧ A + 1 < w'.heap.size) w6.drew) := Hm ⟨HB6.out.cell0, HBW6.out.cell0, HB6.out.lt, HBW6.out.lt⟩
  refine wp_region_head 9 (fun w' => w'.cell? ⟨G, 0, none⟩ = some (.slice va lv vc) ∧ w'.cell? ⟨A + 1, 0, none⟩ = some (.slice a6 l6 c6) ∧ G < w'.heap.size ∧ A + 1 < w'.heap.size) (by kernel_rfl) (by decide) ?_
  (refine wpHd_take (i := 0) (v := ?_) rfl (by kernel_rfl) (by kernel_rfl) (by kernel_rfl) (fun _ _ _ h => h) (Or.inl ⟨by rfl, ?_⟩) hA0.out ?_; rotate_left 1; · (intro w' hS'; (try dsimp only at hS'); go_split_ands; go_simp; try with_reducible rfl))
  (refine wpHd_take (i := 1) (v := ?_) rfl (by kernel_rfl) (by kernel_rfl) (by kernel_rfl) (fun _ _ _ h => h) (Or.inl ⟨by rfl, ?_⟩) hA0.out ?_; rotate_left 1; · (intro w' hS'; (try dsimp only at hS'); go_split_ands; go_simp; try with_reducible rfl))
  (refine wpHd_take (i := 2) (v := ?_) rfl (by kernel_rfl) (by kernel_rfl) (by kernel_rfl) (fun _ _ _ h => h) (Or.inl ⟨by rfl, ?_⟩) hA0.out ?_; rotate_left 1; · (intro w' hS'; (try dsimp only at hS'); go_split_ands; go_simp; try with_reducible rfl))
  (refine wpHd_take (i := 3) (v := ?_) rfl (by kernel_rfl) (by kernel_rfl) (by kernel_rfl) (fun _ _ _ h => h) (Or.inl ⟨by rfl, ?_⟩) hA0.out ?_; rotate_left 1; · (intro w' hS'; (try dsimp only at hS'); go_split_ands; go_simp; try with_reducible rfl))
  (refine wpHd_take (i := 4) (v := ?_) rfl (by kernel_rfl) (by kernel_rfl) (by kernel_rfl) (fun _ _ _ h => h) (Or.inl ⟨by rfl, ?_⟩) hA0.out ?_; rotate_left 1; · (intro w' hS'; (try dsimp only at hS'); go_split_ands; go_simp; try with_reducible rfl))
  (refine wpHd_take (i := 5) (v := ?_) rfl (by kernel_rfl) (by kernel_rfl) (by kernel_rfl) (fun _ _ _ h => h) (Or.inl ⟨by rfl, ?_⟩) hA0.out ?_; rotate_left 1; · (intro w' hS'; (try dsimp only at hS'); go_split_ands; go_simp; try with_reducible rfl))
  (refine wpHd_take (i := 6) (v := ?_) rfl (by kernel_rfl) (by kernel_rfl) (by kernel_rfl) (fun _ _ _ h => h) (Or.inl ⟨by rfl, ?_⟩) hA0.out ?_; rotate_left 1; · (intro w' hS'; (try dsimp only at hS'); go_split_ands; go_simp; try with_reducible rfl))
  (refine wpHd_take (i := 7) (v := ?_) rfl (by kernel_rfl) (by kernel_rfl) (by kernel_rfl) (fun _ _ _ h => h) (Or.inl ⟨by rfl, ?_⟩) hA0.out ?_; rotate_left 1; · (intro w' hS'; (try dsimp only at hS'); go_split_ands; go_simp; try with_reducible rfl))
  refine wpHd_one (i := 8) rfl rfl (by kernel_rfl) (fun KK hK => ?_)
  refine wp_app_bytes (.tmp 96) (.tmp 100) ?ho A (.slice a6 l6 c6) ([k] ++ octs (lv : Int) 4) ?ev1 (HOW6.out.ext ((Ext.refl _).drew)) (.slice va lv vc) BW ?ev2 ?c1 ?c2 ?c3 ?_
  case ho => rfl
  case ev1 => (try go_simp); (try rfl)
  case ev2 => (try go_simp); (try rfl)
  case c1 => exact NB.of_own (HO6.out.ext ((Ext.refl _).drew))
  case c2 => have := HLV.out; simp [octs_len]; omega
  case c3 => have := HSZ.out; have := HR6.out.1.size; simp; omega
  intro v' w7 ho7 hg7 ha7
  have HO7 := Hm ho7
  have HK7 := Hm (show Wr w6 w7 (A + 1) (Value.slice a6 l6 c6).ownBlock v'.ownBlock from (Wr.of_ext ((Ext.refl _).drew)).trans ⟨(Kp.of_grown hg7).mono (fun x hx _ => .inr hx), ha7⟩)
  have HB7 := Hm (HB6.out.kp HK7.out.1 (fun e => by
    have h := HR6.out.2
    rcases e with e | e
    · have := HGE.out; omega
    · rcases h with h | ⟨b, h, hb⟩
      · rw [h] at e; injection e with e; have := HGE.out; omega
      · rw [h] at e; injection e with e; have := HGE.out; have := HSZ.out; omega))
  have HBW7 := Hm ((HBW6.out.ext ((Ext.refl _).drew)).kp (Kp.of_grown hg7) (fun e => HN6.out e))
  clear ho7 hg7 ha7
  refine hK.out _ _ ⟨HB7.out.cell0, HBW7.out.cell0, HB7.out.lt, HBW7.out.lt⟩ (fun hA => ?_)
  clear hK KK hA hA0
  refine wpHd_tail (by kernel_rfl) ?_
  simp only [List.drop_succ_cons, List.drop_zero]
  go_wp2
  go_ret2
  refine ⟨_, rfl, ?_, ?_⟩
  · have h := HO7.out.base HLE5.out
    rw [HB1.out]
    simpa using h
  · exact WG.wext (HE4.out.trans HE5.out) HWG.out (by have := HLE5.out; omega) HLE5.out (HR6.out.trans HK7.out)
end Go.Proofs.YtdlhaidlokkmnaaGreatDoor
