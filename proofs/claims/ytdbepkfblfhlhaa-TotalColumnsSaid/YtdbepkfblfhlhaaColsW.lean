/-
The program's Columns.
-/
import Derived.Test.YtdbepkfblfhlhaaP16
import Derived.Test.YtdbepkfblfhlhaaCols
namespace Go.Proofs.Ytdbepkfblfhlhaa
open Go.RowKit

set_option maxRecDepth 100000 in set_option maxHeartbeats 4000000 in
theorem cols_any (oid ver : Int) (nm : ByteArray) (id : Int) (cols : List Col) (a2 : Option Addr) (cap2 : Nat) (ps : List PR) (a : Option Addr) (cap : Nat) (w : World) (hl2 : Sl w (.slice a2 cols.length cap2) 3 (cols.map Col.cells)) (hcap2 : cols.length ≤ cap2) (hlen2 : cols.length ≤ 1000)
    (hs2 : ∀ c ∈ cols, c.nm.size ≤ 9223372036854775807) (hnm : nm.size ≤ 9223372036854775807) (hp : Sl w (.slice a ps.length cap) 1 (ps.map PR.cell)) (hpl : ∀ p ∈ ps, Sl w p.val 5 (p.l.map K.pc) ∧ p.l.length ≤ 1000 ∧ ∀ c ∈ p.l, c.tw) (hn : ps.length ≤ 20) :
    Calls Try.prog 16 #[.agg #[.int .u32 oid, .int .u32 ver, .string nm, .int .u8 id, .slice a2 cols.length cap2], .slice a ps.length cap] w (ColPost (ps.map PR.l) (⟨oid, ver, nm, id, cols⟩ : Rl) w) := by
  have HR8 := Hid.mk' (fun W (h : Ext w W) => right8_any oid ver nm id cols a2 cap2 W (hl2.ext h) hcap2 hlen2 hnm hs2)
  have HFT := Hid.mk' (fun l pa pc W (h1 : Sl W (.slice pa l.length pc) 5 (l.map K.pc)) (h : Ext w W) (h2 : l.length ≤ 1000) (h3 : ∀ c ∈ l, K.tw c) => fits_any l pa pc oid ver nm id cols a2 cap2 W h1 (hl2.ext h) hcap2 h2 hlen2 (fun c hc => (h3 c hc).towk) hs2 hnm)
  have HP := Hid.mk' hp
  have HPL := Hid.mk' hpl
  clear hl2 hcap2 hs2 hnm hp hpl
  obtain ⟨E0, hE0⟩ : ∃ E0, E0 = Rl.right (⟨oid, ver, nm, id, cols⟩ : Rl) := ⟨_, rfl⟩
  rw [← hE0] at HR8
  by_cases h0 : E0 = 0
  case neg =>
    have h0' : (E0 != 0) = true := by simpa using h0
    have HE := Hid.mk' (colsE_right (ls := ps.map PR.l) hE0.symm h0)
    have H0 := Hid.mk' h0
    clear h0 hE0
    go_enter Try.func16, Try.ntmps16
    go_wp2_with (go_at_call 57; refine (HR8.out _ (by (repeat (with_reducible (first | exact Ext.refl _ | assumption | exact held_left (by assumption) | apply Ext.drewN | apply Ext.drew | apply Ext.alloc | (refine Ext.setCell ?_ (by first | (simp; done) | (simp; omega) | omega) _) | (refine Ext.trans ?_ (by assumption)) | (refine Ext.trans ?_ (held_left (by assumption)))))))).mono ?_; rintro e w1 ⟨rfl, hb1⟩; have hE1 : Ext w w1 := (by (repeat (with_reducible (first | exact Ext.refl _ | assumption | exact held_left (by assumption) | apply Ext.drewN | apply Ext.drew | apply Ext.alloc | (refine Ext.setCell ?_ (by first | (simp; done) | (simp; omega) | omega) _) | (refine Ext.trans ?_ (by assumption)) | (refine Ext.trans ?_ (held_left (by assumption))))))))
    go_ret2
    exact ColPost.bad HE.out H0.out hE1
  subst h0
  have HZ := Hid.mk' hE0.symm
  clear hE0
  go_enter Try.func16, Try.ntmps16
  go_upto_region 4 with (go_at_call 57; refine (HR8.out _ (by (repeat (with_reducible (first | exact Ext.refl _ | assumption | exact held_left (by assumption) | apply Ext.drewN | apply Ext.drew | apply Ext.alloc | (refine Ext.setCell ?_ (by first | (simp; done) | (simp; omega) | omega) _) | (refine Ext.trans ?_ (by assumption)) | (refine Ext.trans ?_ (held_left (by assumption)))))))).mono ?_; rintro e w1 ⟨rfl, hb1⟩; have HE1 := Hid.mk' (show Ext w w1 by (repeat (with_reducible (first | exact Ext.refl _ | assumption | exact held_left (by assumption) | apply Ext.drewN | apply Ext.drew | apply Ext.alloc | (refine Ext.setCell ?_ (by first | (simp; done) | (simp; omega) | omega) _) | (refine Ext.trans ?_ (by assumption)) | (refine Ext.trans ?_ (held_left (by assumption))))))); have g0 := ((Blk.new w #[.int .u32 oid, .int .u32 ver, .string nm, .int .u8 id, .slice a2 cols.length cap2] 42).ext hb1).cell; have HB1 := Hid.mk' ((Blk.new w #[.int .u32 oid, .int .u32 ver, .string nm, .int .u8 id, .slice a2 cols.length cap2] 42).ext hb1); clear hb1)
  obtain ⟨cs, hmk, hsz, hzz⟩ := run_makeS cols.length hlen2 w1
  have HS0 : Hid (SumAt (w1.alloc (.cells cs 50)) w1.heap.size (List.replicate cols.length T.zero)) := Hid.mk' ⟨cs, Blk.new _ _ _, by simpa using hsz, fun i hi j hj => by rw [List.getElem_replicate]; exact hzz i (by simpa using hi) j hj⟩
  clear hsz hzz
  go_wp2
  clear hmk g0
  obtain ⟨n, hnn⟩ : ∃ n, n = ps.length := ⟨_, rfl⟩
  have hwz : w.heap.size < w1.heap.size := HB1.out.lt
  go_loopg [24] ps.length (fun z i wr => ∃ (k : Nat) (ts : List T), z + k = ps.length ∧ i = .int .i64 k ∧ Hid (∀ j, j < k → rowE (ps.map PR.l) (⟨oid, ver, nm, id, cols⟩ : Rl) j = 0) ∧ Hid (ColsAt (ps.map PR.l) cols.length k 0 ts) ∧ Hid (SumAt wr w1.heap.size ts) ∧ Hid (Ext w1 wr))
  case atStart => exact ⟨0, _, by omega, rfl, Hid.mk' (fun j h => by omega), Hid.mk' (ColsAt.zero _ _), HS0, Hid.mk' ((Ext.refl w1).alloc _)⟩
  case round =>
    obtain ⟨k, ts, hzk, rfl, hrow, hca, hsa, hE⟩ := hrel
    have hEw : Ext w wr := HE1.out.trans hE.out
    have HB := Hid.mk' (HB1.out.ext hE.out)
    have g0 := HB.out.cell
    have z0 := HB.out.lt
    by_cases hlt : k < ps.length
    · obtain ⟨b, o, rfl, hb, hx⟩ := HP.out.at_ (i := k) (by simpa using hlt)
      have f0 := PR.at_ hlt hx hb hEw
      obtain ⟨hsl, hl1, htw⟩ := HPL.out ps[k] (List.getElem_mem hlt)
      have hls : (ps.map PR.l)[k]'(by simpa using hlt) = ps[k].l := by simp
      have hlt2 : k < (ps.map PR.l).length := by simpa using hlt
      have hre : rowE (ps.map PR.l) (⟨oid, ver, nm, id, cols⟩ : Rl) k = fitsE ps[k].l (⟨oid, ver, nm, id, cols⟩ : Rl) := by rw [rowE_lt hlt2, hls]
      obtain ⟨⟨pl, pa, pc⟩, hpe⟩ : ∃ p, p = ps[k] := ⟨_, rfl⟩
      rw [← hpe] at f0 hsl hl1 htw hls hre
      simp only [PR.val] at f0 hsl hl1 htw hls hre
      have HF := Hid.mk' (fun W (h : Ext w W) => HFT.out pl pa pc W (hsl.ext h) h hl1 htw)
      have hbw : b < wr.heap.size := Nat.lt_of_lt_of_le hb hEw.size
      obtain ⟨E, hE2⟩ : ∃ E, E = fitsE pl (⟨oid, ver, nm, id, cols⟩ : Rl) := ⟨_, rfl⟩
      rw [← hE2] at HF hre
      by_cases hE0 : E = 0
      case neg =>
        have hE0' : (E != 0) = true := by simpa using hE0
        have HC := Hid.mk' (colsE_at HZ.out hlt2 hrow.out hre hE0)
        have H0 := Hid.mk' hE0
        clear hE0 hE2 hre hls hsl htw hx hpe
        go_wp2_with (go_at_call 42; refine (HF.out _ hEw).mono ?_; rintro e w2 ⟨rfl, hb2⟩)
        go_ret2
        exact ColPost.bad HC.out H0.out (hEw.trans hb2)
      have hE1 : (E != 0) = false := by simpa using hE0
      have hpn : pl.length = cols.length := (fitsW_zero (hE2.symm.trans hE0)).2.1
      have hz : rowE (ps.map PR.l) (⟨oid, ver, nm, id, cols⟩ : Rl) k = 0 := by rw [hre, hE0]
      have HROW := Hid.mk' (fun j (hj : j < k + 1) => show rowE (ps.map PR.l) (⟨oid, ver, nm, id, cols⟩ : Rl) j = 0 by
        by_cases e : j = k
        · subst e; exact hz
        · exact hrow.out j (by omega))
      have HSL := Hid.mk' hsl
      have HTW := Hid.mk' htw
      have HLS := Hid.mk' hls
      have HPN := Hid.mk' hpn
      clear hE0 hE2 hre hls hsl htw hx hpe hz hrow hpn
      go_wp2_with (go_at_call 42; refine (HF.out _ hEw).mono ?_; rintro e w2 ⟨rfl, hb2⟩)
      have HE2 := Hid.mk' (hE.out.trans hb2)
      have HS2 := Hid.mk' (hsa.out.ext hb2)
      clear hsa HF hb2 g0 z0 hbw f0
      go_loopg [36] pl.length (fun z i w3 => ∃ (q : Nat) (ts' : List T), z + q = pl.length ∧ i = .int .i64 q ∧ Hid (ColsAt (ps.map PR.l) cols.length k q ts') ∧ Hid (SumAt w3 w1.heap.size ts') ∧ Hid (Ext w1 w3))
      case atStart => exact ⟨0, ts, by omega, rfl, hca, HS2, HE2⟩
      case round =>
        rename World => w3
        obtain ⟨q, ts', hzq, rfl, hcq, hsq, hEq⟩ := hrel
        by_cases hq : q < pl.length
        · have hEw3 : Ext w w3 := HE1.out.trans hEq.out
          obtain ⟨b3, o3, rfl, hb3, hx3⟩ := HSL.out.at_ (i := q) (by simpa using hq)
          obtain ⟨f0, f1, f2, f3, f4⟩ := K.pcAt hq hx3 hb3 hEw3
          have hbw3 : b3 < w3.heap.size := Nat.lt_of_lt_of_le hb3 hEw3.size
          have hqc : q < cols.length := by have := HPN.out; omega
          have hqt : q < ts'.length := by rw [hcq.out.len]; exact hqc
          obtain ⟨s0, s1, s2, s3, s4, s5⟩ := hsq.out.at_ hqt
          have hgl := hsq.out.lt
          have hgf := hsq.out.frozen
          have hgl2 : w1.heap.size < w3.heap.size + 1 := by omega
          have hw := hcq.out.ok q hqt
          have hsm := colUp_small (ps.map PR.l) q (k + 1)
          have hsm0 := colUp_small (ps.map PR.l) q k
          have hss := hcq.out.s q hqt
          rw [if_neg (Nat.lt_irrefl _)] at hss
          have htc := HTW.out _ (List.getElem_mem hq)
          have HST := Hid.mk' (fun t (ht : T.s t = ts'[q].s.plus pl[q].S) hok => hcq.out.step hlt2 (by rw [HLS.out]; exact hq) hqt (by rw [ht]; simp only [HLS.out]) hok)
          obtain ⟨c, hc⟩ : ∃ c, c = pl[q] := ⟨_, rfl⟩
          obtain ⟨t, ht⟩ : ∃ t, t = ts'[q] := ⟨_, rfl⟩
          rw [← hc] at f0 f1 f2 f3 f4 htc HST
          rw [← ht] at s0 s1 s2 s3 s4 s5 hw hss HST
          have HAD := Hid.mk' (fun W => add_S t.s c.k c.v.ty c.v.n t.x t.y c.v.x c.v.y c.v.s W (Hid.mk' htc.x) (Hid.mk' htc.y) (by have := htc.n; unfold wrap64; omega) htc.s hw (by rw [hss]; omega) (by rw [hss]; omega))
          clear hc ht hx3 hw hsm hsm0 hss htc
          go_wp2
          have HS3 := Hid.mk' (hsq.out.ext ((Ext.refl w3).alloc (.cells #[.int .u8 c.k, .int .u8 c.v.ty, .int .i64 c.v.n, .complex .f64 c.v.x c.v.y, .string c.v.s] 78)))
          have HE3 := Hid.mk' (hEq.out.alloc (.cells #[.int .u8 c.k, .int .u8 c.v.ty, .int .i64 c.v.n, .complex .f64 c.v.x c.v.y, .string c.v.s] 78))
          refine wp_region_head 8 (fun w' => Ext (w3.alloc (.cells #[.int .u8 c.k, .int .u8 c.v.ty, .int .i64 c.v.n, .complex .f64 c.v.x c.v.y, .string c.v.s] 78)) w' ∧ (∀ b o, b < (w3.alloc (.cells #[.int .u8 c.k, .int .u8 c.v.ty, .int .i64 c.v.n, .complex .f64 c.v.x c.v.y, .string c.v.s] 78)).heap.size → w'.cell? ⟨b, o, none⟩ = (w3.alloc (.cells #[.int .u8 c.k, .int .u8 c.v.ty, .int .i64 c.v.n, .complex .f64 c.v.x c.v.y, .string c.v.s] 78)).cell? ⟨b, o, none⟩) ∧ (∀ b o, b < (w3.alloc (.cells #[.int .u8 c.k, .int .u8 c.v.ty, .int .i64 c.v.n, .complex .f64 c.v.x c.v.y, .string c.v.s] 78)).heap.size → w'.frozen? ⟨b, o, none⟩ = (w3.alloc (.cells #[.int .u8 c.k, .int .u8 c.v.ty, .int .i64 c.v.n, .complex .f64 c.v.x c.v.y, .string c.v.s] 78)).frozen? ⟨b, o, none⟩)) (by kernel_rfl) (by decide) ?_
          have hA0 : Hid ((fun w' => Ext (w3.alloc (.cells #[.int .u8 c.k, .int .u8 c.v.ty, .int .i64 c.v.n, .complex .f64 c.v.x c.v.y, .string c.v.s] 78)) w' ∧ (∀ b o, b < (w3.alloc (.cells #[.int .u8 c.k, .int .u8 c.v.ty, .int .i64 c.v.n, .complex .f64 c.v.x c.v.y, .string c.v.s] 78)).heap.size → w'.cell? ⟨b, o, none⟩ = (w3.alloc (.cells #[.int .u8 c.k, .int .u8 c.v.ty, .int .i64 c.v.n, .complex .f64 c.v.x c.v.y, .string c.v.s] 78)).cell? ⟨b, o, none⟩) ∧ (∀ b o, b < (w3.alloc (.cells #[.int .u8 c.k, .int .u8 c.v.ty, .int .i64 c.v.n, .complex .f64 c.v.x c.v.y, .string c.v.s] 78)).heap.size → w'.frozen? ⟨b, o, none⟩ = (w3.alloc (.cells #[.int .u8 c.k, .int .u8 c.v.ty, .int .i64 c.v.n, .complex .f64 c.v.x c.v.y, .string c.v.s] 78)).frozen? ⟨b, o, none⟩)) (w3.alloc (.cells #[.int .u8 c.k, .int .u8 c.v.ty, .int .i64 c.v.n, .complex .f64 c.v.x c.v.y, .string c.v.s] 78)).drew) := held_of (by (repeat (with_reducible (first | exact Ext.refl _ | assumption | exact held_left (by assumption) | apply Ext.drewN | apply Ext.drew | apply Ext.alloc | (refine Ext.setCell ?_ (by first | (simp; done) | (simp; omega) | omega) _) | (refine Ext.trans ?_ (by assumption)) | (refine Ext.trans ?_ (held_left (by assumption)))))))
          (refine wpHd_take (i := 0) (v := ?_) rfl (by kernel_rfl) (by kernel_rfl) (by kernel_rfl) (fun _ _ _ h => h) (Or.inl ⟨by rfl, ?_⟩) hA0.out ?_; rotate_left 1; · (intro w' hS'; (obtain ⟨hEs', hcs', hfs'⟩ := hS'); go_simp; try with_reducible rfl))
          (refine wpHd_take (i := 1) (v := ?_) rfl (by kernel_rfl) (by kernel_rfl) (by kernel_rfl) (fun _ _ _ h => h) (Or.inl ⟨by rfl, ?_⟩) hA0.out ?_; rotate_left 1; · (intro w' hS'; (obtain ⟨hEs', hcs', hfs'⟩ := hS'); go_simp; try with_reducible rfl))
          (refine wpHd_take (i := 2) (v := ?_) rfl (by kernel_rfl) (by kernel_rfl) (by kernel_rfl) (fun _ _ _ h => h) (Or.inl ⟨by rfl, ?_⟩) hA0.out ?_; rotate_left 1; · (intro w' hS'; (obtain ⟨hEs', hcs', hfs'⟩ := hS'); go_simp; try with_reducible rfl))
          (refine wpHd_take (i := 3) (v := ?_) rfl (by kernel_rfl) (by kernel_rfl) (by kernel_rfl) (fun _ _ _ h => h) (Or.inl ⟨by rfl, ?_⟩) hA0.out ?_; rotate_left 1; · (intro w' hS'; (obtain ⟨hEs', hcs', hfs'⟩ := hS'); go_simp; try with_reducible rfl))
          (refine wpHd_take (i := 4) (v := ?_) rfl (by kernel_rfl) (by kernel_rfl) (by kernel_rfl) (fun _ _ _ h => h) (Or.inl ⟨by rfl, ?_⟩) hA0.out ?_; rotate_left 1; · (intro w' hS'; (obtain ⟨hEs', hcs', hfs'⟩ := hS'); go_simp; try with_reducible rfl))
          (refine wpHd_take (i := 5) (v := ?_) rfl (by kernel_rfl) (by kernel_rfl) (by kernel_rfl) (fun _ _ _ h => h) (Or.inl ⟨by rfl, ?_⟩) hA0.out ?_; rotate_left 1; · (intro w' hS'; (obtain ⟨hEs', hcs', hfs'⟩ := hS'); go_simp; try with_reducible rfl))
          (refine wpHd_take (i := 6) (v := ?_) rfl (by kernel_rfl) (by kernel_rfl) (by kernel_rfl) (fun _ _ _ h => h) (Or.inl ⟨by rfl, ?_⟩) hA0.out ?_; rotate_left 1; · (intro w' hS'; (obtain ⟨hEs', hcs', hfs'⟩ := hS'); go_simp; try with_reducible rfl))
          refine wpHd_one (i := 7) rfl rfl (by kernel_rfl) (fun K hK => ?_)
          go_simp
          refine (HAD.out _).mono ?_
          rintro e w4 ⟨v, rfl, ⟨x, y, rfl, hw2⟩, hb4⟩
          have HK4 := Hid.mk' (show Ext (w3.alloc (.cells #[.int .u8 c.k, .int .u8 c.v.ty, .int .i64 c.v.n, .complex .f64 c.v.x c.v.y, .string c.v.s] 78)) w4 by (repeat (with_reducible (first | exact Ext.refl _ | assumption | exact held_left (by assumption) | apply Ext.drewN | apply Ext.drew | apply Ext.alloc | (refine Ext.setCell ?_ (by first | (simp; done) | (simp; omega) | omega) _) | (refine Ext.trans ?_ (by assumption)) | (refine Ext.trans ?_ (held_left (by assumption)))))))
          refine hK.out _ _ (held_of HK4.out) (fun hA => ?_)
          clear hK K hA hA0 hb4
          have HS4 := Hid.mk' (HS3.out.ext HK4.out)
          have HE4 := Hid.mk' (HE3.out.trans HK4.out)
          have hg4 := HS4.out.lt
          have hf4 := HS4.out.frozen
          obtain ⟨r0, r1, r2, r3, r4, r5⟩ := HS4.out.at_ hqt
          have HST2 := Hid.mk' (HST.out ⟨t.s.plus c.S, x, y⟩ rfl hw2)
          clear HS3 HE3 HK4 HST HAD hsq hEq hw2
          refine wpHd_tail (by kernel_rfl) ?_
          simp only [List.drop_succ_cons, List.drop_zero]
          go_wp2
          go_roundg (pl.length - (q + 1))
          case measure => omega
          case rel => exact ⟨q + 1, _, by omega, by go_num, HST2, Hid.mk' (HS4.out.set hqt ⟨t.s.plus c.S, x, y⟩), Hid.mk' ((((((HE4.out.setCell (Nat.le_refl _) _).setCell (Nat.le_refl _) _).setCell (Nat.le_refl _) _).setCell (Nat.le_refl _) _).setCell (Nat.le_refl _) _).setCell (Nat.le_refl _) _)⟩
        · obtain rfl : q = pl.length := by omega
          have HCN := Hid.mk' (hcq.out.row (by rw [HPN.out]; exact Nat.le_refl _))
          clear hq
          go_wp2
          go_roundg (ps.length - (k + 1))
          case measure => omega
          case rel => exact ⟨k + 1, ts', by omega, by go_num, HROW, HCN, hsq, hEq⟩
    · have hkk : k = ps.length := by omega
      subst hkk
      have HC := Hid.mk' (colsE_ok (ls := ps.map PR.l) HZ.out (fun j hj => hrow.out j (by simpa using hj)))
      have hca2 := hca.out
      rw [show ps.length = (ps.map PR.l).length by simp] at hca2
      have HCA := Hid.mk' hca2
      clear hca2 hlt g0 z0
      go_wp2
      go_ret2
      exact ColPost.good HC.out rfl HCA.out hsa.out hEw

end Go.Proofs.Ytdbepkfblfhlhaa
