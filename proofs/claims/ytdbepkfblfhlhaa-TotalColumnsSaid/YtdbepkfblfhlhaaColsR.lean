/-
The reference's Columns.
-/
import Derived.Test.YtdbepkfblfhlhaaP16
import Derived.Test.YtdbepkfblfhlhaaCols
import Derived.Test.YtdbepkfblfhlhaaRefAdd
namespace Go.Proofs.Ytdbepkfblfhlhaa
open Go.RowKit

theorem S.scale_one2 (d : S) : d.scale 1 = d := by unfold S.scale; simp
theorem S.zeroT2 : encT S.zero = #[.int .i64 0, .int .i64 0, .int .i64 0, .int .i64 0, .int .i64 0, .int .i64 0, .int .i64 0] := by
  have w0 : wrap64 0 = 0 := by unfold wrap64; omega
  unfold encT S.zero; simp only [w0]
noncomputable def colsL (ls : List (List K)) (n : Nat) : List S := (List.range n).map fun j => colUp ls j ls.length
theorem colsL_len (ls : List (List K)) (n : Nat) : (colsL ls n).length = n := by simp [colsL]
theorem colsL_get (ls : List (List K)) (n j : Nat) (h : j < (colsL ls n).length) : (colsL ls n)[j] = colUp ls j ls.length := by simp [colsL]
def S.rc (s : S) : List Value := [.int .i64 (wrap64 s.c), .int .i64 (wrap64 s.n), .int .i64 (wrap64 s.o), .int .i64 (wrap64 s.b), .int .i64 (wrap64 s.i), .int .i64 (wrap64 s.re), .int .i64 (wrap64 s.im)]
theorem S.rc_encT (s : S) : (encT s).toList = s.rc := rfl
def RColPost (ls : List (List K)) (r : Rl) (w : World) (e : Ending) (w' : World) : Prop :=
  ∃ v, e = .returned (.tuple #[v, .int .i64 (colsE ls r)]) ∧ (colsE ls r ≠ 0 → v = .slice none 0 0) ∧ (colsE ls r = 0 → ∃ a cap, v = .slice a r.cols.length cap ∧ Sl w' v 7 ((colsL ls r.cols.length).map S.rc)) ∧ Ext w w'
theorem RColPost.bad {ls : List (List K)} {r : Rl} {w w' : World} {E : Int} (h : colsE ls r = E) (h0 : E ≠ 0) (hE : Ext w w') : RColPost ls r w (.returned (.tuple #[.slice none 0 0, .int .i64 E])) w' :=
  ⟨_, by rw [h], fun _ => rfl, fun h2 => absurd (h ▸ h2) h0, hE⟩
theorem RColPost.good {ls : List (List K)} {r : Rl} {w w' : World} {a : Option Addr} {cap n : Nat} (h : colsE ls r = 0) (hn : r.cols.length = n) (hs : Sl w' (.slice a n cap) 7 ((colsL ls n).map S.rc)) (hE : Ext w w') : RColPost ls r w (.returned (.tuple #[.slice a n cap, .int .i64 0])) w' :=
  ⟨_, by rw [h], fun h2 => absurd h h2, fun _ => ⟨a, cap, by rw [hn], by rw [hn]; exact hs⟩, hE⟩
theorem right_k2 {c : K} {kind : Int} (h : c.right kind = 0) (h0 : 0 ≤ c.k) : c.k = 0 ∨ c.k = 1 ∨ c.k = 2 := by
  unfold K.right rightC at h
  (repeat' split at h) <;> first | omega | (exfalso; omega)
theorem Try.infoRSum : (Try.prog.info? 52).map (fun i => (i.zero, i.size, i.bytes)) = some (some (.agg #[.int .i64 0, .int .i64 0, .int .i64 0, .int .i64 0, .int .i64 0, .int .i64 0, .int .i64 0]), 7, 56) := by kernel_rfl

set_option maxRecDepth 100000 in set_option maxHeartbeats 4000000 in
theorem rcols_any (oid ver : Int) (nm : ByteArray) (id : Int) (cols : List Col) (a2 : Option Addr) (cap2 : Nat) (ps : List PR) (a : Option Addr) (cap : Nat) (w : World) (hl2 : Sl w (.slice a2 cols.length cap2) 3 (cols.map Col.cells)) (hlen2 : cols.length ≤ 1000)
    (hs2 : ∀ c ∈ cols, c.nm.size ≤ 9223372036854775807) (hnm : nm.size ≤ 9223372036854775807) (hp : Sl w (.slice a ps.length cap) 1 (ps.map PR.cell)) (hpl : ∀ p ∈ ps, Sl w p.val 6 (p.l.map K.rc) ∧ p.l.length ≤ 1000 ∧ ∀ c ∈ p.l, c.tw) (hn : ps.length ≤ 20) :
    Calls Try.prog 18 #[.agg #[.int .u32 oid, .int .u32 ver, .string nm, .int .u8 id, .slice a2 cols.length cap2], .slice a ps.length cap] w (RColPost (ps.map PR.l) (⟨oid, ver, nm, id, cols⟩ : Rl) w) := by
  obtain ⟨i0, hi, hz0, hz1, hz2⟩ := info_parts Try.infoRSum
  have HR8 := Hid.mk' (fun W (h : Ext w W) => rright8_big oid ver nm id cols a2 cap2 W (hl2.ext h) (by omega) hnm hs2)
  have HFT := Hid.mk' (fun l pa pc W (h1 : Sl W (.slice pa l.length pc) 6 (l.map K.rc)) (h : Ext w W) (h2 : l.length ≤ 1000) (h3 : ∀ c ∈ l, K.tw c) => rfits_big l pa pc oid ver nm id cols a2 cap2 W h1 (hl2.ext h) (by omega) (by omega) (fun c hc => (h3 c hc).towk) hs2 hnm)
  have HP := Hid.mk' hp
  have HPL := Hid.mk' hpl
  clear hl2 hs2 hnm hp hpl
  obtain ⟨E0, hE0⟩ : ∃ E0, E0 = Rl.right (⟨oid, ver, nm, id, cols⟩ : Rl) := ⟨_, rfl⟩
  rw [← hE0] at HR8
  by_cases h0 : E0 = 0
  case neg =>
    have h0' : (E0 != 0) = true := by simpa using h0
    have HE := Hid.mk' (colsE_right (ls := (ps.map PR.l)) hE0.symm h0)
    have H0 := Hid.mk' h0
    clear h0 hE0
    go_enter Try.func18, Try.ntmps18
    go_wp2_with (go_at_call 59; refine (HR8.out _ (by (repeat (with_reducible (first | exact Ext.refl _ | assumption | exact held_left (by assumption) | apply Ext.drewN | apply Ext.drew | apply Ext.alloc | (refine Ext.setCell ?_ (by first | (simp; done) | (simp; omega) | omega) _) | (refine Ext.trans ?_ (by assumption)) | (refine Ext.trans ?_ (held_left (by assumption)))))))).mono ?_; rintro e w1 ⟨rfl, hb1⟩; have hE1 : Ext w w1 := (by (repeat (with_reducible (first | exact Ext.refl _ | assumption | exact held_left (by assumption) | apply Ext.drewN | apply Ext.drew | apply Ext.alloc | (refine Ext.setCell ?_ (by first | (simp; done) | (simp; omega) | omega) _) | (refine Ext.trans ?_ (by assumption)) | (refine Ext.trans ?_ (held_left (by assumption))))))))
    go_ret2
    exact RColPost.bad HE.out H0.out hE1
  subst h0
  have HZ := Hid.mk' hE0.symm
  clear hE0
  go_enter Try.func18, Try.ntmps18
  go_upto_block 0 with (go_at_call 59; refine (HR8.out _ (by (repeat (with_reducible (first | exact Ext.refl _ | assumption | exact held_left (by assumption) | apply Ext.drewN | apply Ext.drew | apply Ext.alloc | (refine Ext.setCell ?_ (by first | (simp; done) | (simp; omega) | omega) _) | (refine Ext.trans ?_ (by assumption)) | (refine Ext.trans ?_ (held_left (by assumption)))))))).mono ?_; rintro e w1 ⟨rfl, hb1⟩; have HE1 := Hid.mk' (show Ext w w1 by (repeat (with_reducible (first | exact Ext.refl _ | assumption | exact held_left (by assumption) | apply Ext.drewN | apply Ext.drew | apply Ext.alloc | (refine Ext.setCell ?_ (by first | (simp; done) | (simp; omega) | omega) _) | (refine Ext.trans ?_ (by assumption)) | (refine Ext.trans ?_ (held_left (by assumption))))))); have HB1 := Hid.mk' ((Blk.new w #[.int .u32 oid, .int .u32 ver, .string nm, .int .u8 id, .slice a2 cols.length cap2] 27).ext hb1); clear hb1)
  have hwz : w.heap.size < w1.heap.size := HB1.out.lt
  go_wp2
  go_loopg [7] ps.length (fun z i wr => ∃ (k : Nat), z + k = ps.length ∧ i = .int .i64 k ∧ Hid (∀ j, j < k → rowE (ps.map PR.l) (⟨oid, ver, nm, id, cols⟩ : Rl) j = 0) ∧ Hid (Ext w1 wr))
  case atStart => exact ⟨0, by omega, rfl, Hid.mk' (fun j h => by omega), Hid.mk' (Ext.refl w1)⟩
  case round =>
    obtain ⟨k, hzk, rfl, hrow, hE⟩ := hrel
    have hEw : Ext w wr := HE1.out.trans hE.out
    have HB := Hid.mk' (HB1.out.ext hE.out)
    have g0 := HB.out.cell
    have z0 := HB.out.lt
    by_cases hlt : k < ps.length
    · obtain ⟨b, o, rfl, hb, hx⟩ := HP.out.at_ (i := k) (by simpa using hlt)
      have f0 := PR.at_ hlt hx hb hEw
      obtain ⟨hsl, hl1, htw⟩ := HPL.out ps[k] (List.getElem_mem hlt)
      have hls : (ps.map PR.l)[k]'(by simpa using hlt) = ps[k].l := by simp
      have hlt2 : k < (ps.map PR.l).length := by simpa using hlt
      have hre : rowE (ps.map PR.l) (⟨oid, ver, nm, id, cols⟩ : Rl) k = fitsE ps[k].l (⟨oid, ver, nm, id, cols⟩ : Rl) := by rw [rowE_lt hlt2, hls]
      obtain ⟨⟨pl, pa, pc⟩, hpe⟩ : ∃ p, p = ps[k] := ⟨_, rfl⟩
      rw [← hpe] at f0 hsl hl1 htw hls hre
      simp only [PR.val] at f0 hsl hl1 htw hls hre
      have HF := Hid.mk' (fun W (h : Ext w W) => HFT.out pl pa pc W (hsl.ext h) h hl1 htw)
      have hbw : b < wr.heap.size := Nat.lt_of_lt_of_le hb hEw.size
      obtain ⟨E, hE2⟩ : ∃ E, E = fitsE pl (⟨oid, ver, nm, id, cols⟩ : Rl) := ⟨_, rfl⟩
      rw [← hE2] at HF hre
      have HEw := Hid.mk' hEw
      have HRE := Hid.mk' hre
      clear hE2 hre hls hsl htw hx hpe hEw
      by_cases hE0 : E = 0
      case neg =>
        have hE0' : (E != 0) = true := by simpa using hE0
        have HC := Hid.mk' (colsE_at HZ.out hlt2 hrow.out HRE.out hE0)
        have H0 := Hid.mk' hE0
        clear hE0
        go_wp2
        go_region_held3 (fun w' => Ext (wr) w' ∧ (∀ b o, b < (wr).heap.size → w'.cell? ⟨b, o, none⟩ = (wr).cell? ⟨b, o, none⟩) ∧ (∀ b o, b < (wr).heap.size → w'.frozen? ⟨b, o, none⟩ = (wr).frozen? ⟨b, o, none⟩)) ((exact held_of (by (repeat (with_reducible (first | exact Ext.refl _ | assumption | exact held_left (by assumption) | apply Ext.drewN | apply Ext.drew | apply Ext.alloc | (refine Ext.setCell ?_ (by first | (simp; done) | (simp; omega) | omega) _) | (refine Ext.trans ?_ (by assumption)) | (refine Ext.trans ?_ (held_left (by assumption))))))))) (first | (go_at_call 43; refine (HF.out _ (HEw.out.trans (by (repeat (with_reducible (first | exact Ext.refl _ | assumption | exact held_left (by assumption) | apply Ext.drewN | apply Ext.drew | apply Ext.alloc | (refine Ext.setCell ?_ (by first | (simp; done) | (simp; omega) | omega) _) | (refine Ext.trans ?_ (by assumption)) | (refine Ext.trans ?_ (held_left (by assumption))))))))).mono ?_; rintro e w2 ⟨rfl, hb2⟩))
        go_wp2
        go_ret2
        exact RColPost.bad HC.out H0.out (HEw.out.trans (by (repeat (with_reducible (first | exact Ext.refl _ | assumption | exact held_left (by assumption) | apply Ext.drewN | apply Ext.drew | apply Ext.alloc | (refine Ext.setCell ?_ (by first | (simp; done) | (simp; omega) | omega) _) | (refine Ext.trans ?_ (by assumption)) | (refine Ext.trans ?_ (held_left (by assumption))))))))
      have hE1 : (E != 0) = false := by simpa using hE0
      have HROW := Hid.mk' (fun j (hj : j < k + 1) => show rowE (ps.map PR.l) (⟨oid, ver, nm, id, cols⟩ : Rl) j = 0 by
        by_cases e : j = k
        · subst e; rw [HRE.out, hE0]
        · exact hrow.out j (by omega))
      clear hE0 HRE hrow
      go_wp2
      go_region_held3 (fun w' => Ext (wr) w' ∧ (∀ b o, b < (wr).heap.size → w'.cell? ⟨b, o, none⟩ = (wr).cell? ⟨b, o, none⟩) ∧ (∀ b o, b < (wr).heap.size → w'.frozen? ⟨b, o, none⟩ = (wr).frozen? ⟨b, o, none⟩)) ((exact held_of (by (repeat (with_reducible (first | exact Ext.refl _ | assumption | exact held_left (by assumption) | apply Ext.drewN | apply Ext.drew | apply Ext.alloc | (refine Ext.setCell ?_ (by first | (simp; done) | (simp; omega) | omega) _) | (refine Ext.trans ?_ (by assumption)) | (refine Ext.trans ?_ (held_left (by assumption))))))))) (first | (go_at_call 43; refine (HF.out _ (HEw.out.trans (by (repeat (with_reducible (first | exact Ext.refl _ | assumption | exact held_left (by assumption) | apply Ext.drewN | apply Ext.drew | apply Ext.alloc | (refine Ext.setCell ?_ (by first | (simp; done) | (simp; omega) | omega) _) | (refine Ext.trans ?_ (by assumption)) | (refine Ext.trans ?_ (held_left (by assumption))))))))).mono ?_; rintro e w2 ⟨rfl, hb2⟩))
      go_wp2
      go_roundg (ps.length - (k + 1))
      case measure => omega
      case rel => exact ⟨k + 1, by omega, by go_num, HROW, Hid.mk' (hE.out.trans (by (repeat (with_reducible (first | exact Ext.refl _ | assumption | exact held_left (by assumption) | apply Ext.drewN | apply Ext.drew | apply Ext.alloc | (refine Ext.setCell ?_ (by first | (simp; done) | (simp; omega) | omega) _) | (refine Ext.trans ?_ (by assumption)) | (refine Ext.trans ?_ (held_left (by assumption))))))))⟩
    · obtain rfl : k = ps.length := by omega
      have HC := Hid.mk' (colsE_ok (ls := (ps.map PR.l)) HZ.out (fun j hj => hrow.out j (by simpa using hj)))
      have HFF := Hid.mk' (fun i (hi : i < ps.length) => show fitsE ps[i].l (⟨oid, ver, nm, id, cols⟩ : Rl) = 0 by
        have := hrow.out i hi
        rw [rowE_lt (by simpa using hi)] at this
        simpa using this)
      have HEw := Hid.mk' hEw
      clear hlt hrow g0 z0 hEw
      go_wp2
      rename World => wq
      go_loopg [9, 10] cols.length (fun z v i wr => ∃ (k : Nat), z + k = cols.length ∧ i = .int .i64 k ∧ Hid (wr.ownsRow wq.heap.size 52 7 v k (((colsL (ps.map PR.l) cols.length).map S.rc).take k).flatten) ∧ Hid (Ext wq wr))
      case atStart => exact ⟨0, by omega, rfl, World.ownsRow_nil _ _ _ _, Hid.mk' (Ext.refl wq)⟩
      case round =>
        obtain ⟨k, hzk, rfl, hown, hE2⟩ := hrel
        have HBr := Hid.mk' (HB.out.ext hE2.out)
        have g0 := HBr.out.cell
        have z0 := HBr.out.lt
        have HEw2 := Hid.mk' (HEw.out.trans hE2.out)
        by_cases hlt : k < cols.length
        · have HT := Hid.mk' (flat_snoc (f := S.rc) (l := colsL (ps.map PR.l) cols.length) (k := k) (by rw [colsL_len]; exact hlt))
          have HTg := Hid.mk' (show (colsL (ps.map PR.l) cols.length)[k]'(by rw [colsL_len]; exact hlt) = colUp (ps.map PR.l) k ps.length by rw [colsL_get, List.length_map])
          go_wp2
          go_loopg [12] ps.length (fun z i w3 => ∃ (q : Nat), z + q = ps.length ∧ i = .int .i64 q ∧ Hid (Blk w3 wr.heap.size (encT (colUp (ps.map PR.l) k q)) 52) ∧ Hid (Ext wr w3))
          case atStart => exact ⟨0, by omega, rfl, Hid.mk' (by show Blk _ _ (encT S.zero) _; rw [S.zeroT2]; exact Blk.new _ _ _), Hid.mk' ((Ext.refl wr).alloc _)⟩
          case round =>
            rename World => w3
            obtain ⟨q, hzq, rfl, hbq, hEq⟩ := hrel
            have HEw3 := Hid.mk' (HEw2.out.trans hEq.out)
            by_cases hq : q < ps.length
            · obtain ⟨b, o, rfl, hb, hx⟩ := HP.out.at_ (i := q) (by simpa using hq)
              have f0 := PR.at_ hq hx hb HEw3.out
              have hbw : b < w3.heap.size := Nat.lt_of_lt_of_le hb HEw3.out.size
              obtain ⟨hsl, hl1, htw⟩ := HPL.out ps[q] (List.getElem_mem hq)
              have hff := HFF.out q hq
              have hls : (ps.map PR.l)[q]'(by simpa using hq) = ps[q].l := by simp
              have hq2 : q < (ps.map PR.l).length := by simpa using hq
              obtain ⟨⟨pl, pa, pc⟩, hpe⟩ : ∃ p, p = ps[q] := ⟨_, rfl⟩
              rw [← hpe] at f0 hsl hl1 htw hls hff
              simp only [PR.val] at f0 hsl hl1 htw hls hff
              have hpn : pl.length = cols.length := (fitsW_zero hff).2.1
              have hkl : k < pl.length := by omega
              obtain ⟨b3, o3, rfl, hb3, hx3⟩ := hsl.at_ (i := k) (by simpa using hkl)
              obtain ⟨p0, p1, p2, p3, p4, p5⟩ := K.rcAt hkl hx3 hb3 HEw3.out
              have hbw3 : b3 < w3.heap.size := Nat.lt_of_lt_of_le hb3 HEw3.out.size
              have htc := htw _ (List.getElem_mem hkl)
              have hk2 := right_k2 ((fitsW_zero hff).2.2 k hkl hlt) htc.k
              have HST := Hid.mk' (show colUp (ps.map PR.l) k (q + 1) = (colUp (ps.map PR.l) k q).plus pl[k].S by rw [colUp_succ hq2 (by rw [hls]; exact hkl)]; simp only [hls])
              obtain ⟨c, hc⟩ : ∃ c, c = pl[k] := ⟨_, rfl⟩
              rw [← hc] at p0 p1 p2 p3 p4 p5 hk2 HST
              have HAD := Hid.mk' (fun s W => radd_any s c.k c.v.ty c.v.n c.v.x c.v.y c.v.s 1 W hk2)
              simp only [S.scale_one2] at HAD
              obtain ⟨s, hs⟩ : ∃ s, s = colUp (ps.map PR.l) k q := ⟨_, rfl⟩
              rw [← hs] at hbq HST
              have s0 := hbq.out.cell
              have sf := hbq.out.frozen
              have sl := hbq.out.lt
              simp only [encT] at s0
              have hbne : b ≠ wr.heap.size := by have := HEw2.out.size; omega
              have hbne3 : b3 ≠ wr.heap.size := by have := HEw2.out.size; omega
              clear hs hc hsl htw hls hff hpe hx hx3 htc hk2 hpn
              go_wp2
              refine wp_region_head 9 (fun w' => Ext (w3) w' ∧ (∀ b o, b < (w3).heap.size → w'.cell? ⟨b, o, none⟩ = (w3).cell? ⟨b, o, none⟩) ∧ (∀ b o, b < (w3).heap.size → w'.frozen? ⟨b, o, none⟩ = (w3).frozen? ⟨b, o, none⟩)) (by kernel_rfl) (by decide) ?_
              have hA0 : Hid ((fun w' => Ext (w3) w' ∧ (∀ b o, b < (w3).heap.size → w'.cell? ⟨b, o, none⟩ = (w3).cell? ⟨b, o, none⟩) ∧ (∀ b o, b < (w3).heap.size → w'.frozen? ⟨b, o, none⟩ = (w3).frozen? ⟨b, o, none⟩)) w3.drew) := held_of (by (repeat (with_reducible (first | exact Ext.refl _ | assumption | exact held_left (by assumption) | apply Ext.drewN | apply Ext.drew | apply Ext.alloc | (refine Ext.setCell ?_ (by first | (simp; done) | (simp; omega) | omega) _) | (refine Ext.trans ?_ (by assumption)) | (refine Ext.trans ?_ (held_left (by assumption)))))))
              (refine wpHd_take (i := 0) (v := ?_) rfl (by kernel_rfl) (by kernel_rfl) (by kernel_rfl) (fun _ _ _ h => h) (Or.inl ⟨by rfl, ?_⟩) hA0.out ?_; rotate_left 1; · (intro w' hS'; (obtain ⟨hEs', hcs', hfs'⟩ := hS'); go_simp; try with_reducible rfl))
              (refine wpHd_take (i := 1) (v := ?_) rfl (by kernel_rfl) (by kernel_rfl) (by kernel_rfl) (fun _ _ _ h => h) (Or.inl ⟨by rfl, ?_⟩) hA0.out ?_; rotate_left 1; · (intro w' hS'; (obtain ⟨hEs', hcs', hfs'⟩ := hS'); go_simp; try with_reducible rfl))
              (refine wpHd_take (i := 2) (v := ?_) rfl (by kernel_rfl) (by kernel_rfl) (by kernel_rfl) (fun _ _ _ h => h) (Or.inl ⟨by rfl, ?_⟩) hA0.out ?_; rotate_left 1; · (intro w' hS'; (obtain ⟨hEs', hcs', hfs'⟩ := hS'); go_simp; try with_reducible rfl))
              (refine wpHd_take (i := 3) (v := ?_) rfl (by kernel_rfl) (by kernel_rfl) (by kernel_rfl) (fun _ _ _ h => h) (Or.inl ⟨by rfl, ?_⟩) hA0.out ?_; rotate_left 1; · (intro w' hS'; (obtain ⟨hEs', hcs', hfs'⟩ := hS'); go_simp; try with_reducible rfl))
              (refine wpHd_take (i := 4) (v := ?_) rfl (by kernel_rfl) (by kernel_rfl) (by kernel_rfl) (fun _ _ _ h => h) (Or.inl ⟨by rfl, ?_⟩) hA0.out ?_; rotate_left 1; · (intro w' hS'; (obtain ⟨hEs', hcs', hfs'⟩ := hS'); go_simp; try with_reducible rfl))
              (refine wpHd_take (i := 5) (v := ?_) rfl (by kernel_rfl) (by kernel_rfl) (by kernel_rfl) (fun _ _ _ h => h) (Or.inl ⟨by rfl, ?_⟩) hA0.out ?_; rotate_left 1; · (intro w' hS'; (obtain ⟨hEs', hcs', hfs'⟩ := hS'); go_simp; try with_reducible rfl))
              (refine wpHd_take (i := 6) (v := ?_) rfl (by kernel_rfl) (by kernel_rfl) (by kernel_rfl) (fun _ _ _ h => h) (Or.inl ⟨by rfl, ?_⟩) hA0.out ?_; rotate_left 1; · (intro w' hS'; (obtain ⟨hEs', hcs', hfs'⟩ := hS'); go_simp; try with_reducible rfl))
              (refine wpHd_take (i := 7) (v := ?_) rfl (by kernel_rfl) (by kernel_rfl) (by kernel_rfl) (fun _ _ _ h => h) (Or.inl ⟨by rfl, ?_⟩) hA0.out ?_; rotate_left 1; · (intro w' hS'; (obtain ⟨hEs', hcs', hfs'⟩ := hS'); go_simp; try with_reducible rfl))
              refine wpHd_one (i := 8) rfl rfl (by kernel_rfl) (fun K hK => ?_)
              go_simp
              refine (HAD.out s _).mono ?_
              rintro e w4 ⟨rfl, hb4⟩
              have HK4 := Hid.mk' (show Ext w3 w4 by (repeat (with_reducible (first | exact Ext.refl _ | assumption | exact held_left (by assumption) | apply Ext.drewN | apply Ext.drew | apply Ext.alloc | (refine Ext.setCell ?_ (by first | (simp; done) | (simp; omega) | omega) _) | (refine Ext.trans ?_ (by assumption)) | (refine Ext.trans ?_ (held_left (by assumption)))))))
              refine hK.out _ _ (held_of HK4.out) (fun hA => ?_)
              clear hK K hA hA0 hb4 s0 sf sl
              have HB4 := Hid.mk' (hbq.out.ext HK4.out)
              have r0 := HB4.out.cell
              have rf := HB4.out.frozen
              have rl := HB4.out.lt
              simp only [encT] at r0
              have HE4 := Hid.mk' (hEq.out.trans HK4.out)
              clear hbq hEq HK4 HAD
              refine wpHd_tail (by kernel_rfl) ?_
              simp only [List.drop_succ_cons, List.drop_zero]
              simp only [encT]
              go_wp2
              go_roundg (ps.length - (q + 1))
              case measure => omega
              case rel => exact ⟨q + 1, by omega, by go_num, Hid.mk' (by rw [HST.out]; exact ((((((HB4.out.set 0 _).set 1 _).set 2 _).set 3 _).set 4 _).set 5 _).set 6 _), Hid.mk' (((((((HE4.out.setCell (Nat.le_refl _) _).setCell (Nat.le_refl _) _).setCell (Nat.le_refl _) _).setCell (Nat.le_refl _) _).setCell (Nat.le_refl _) _).setCell (Nat.le_refl _) _).setCell (Nat.le_refl _) _)⟩
            · obtain rfl : q = ps.length := by omega
              have s0 := hbq.out.cell
              have sl := hbq.out.lt
              simp only [encT] at s0
              clear hq
              go_wp2_with (at_builtin; refine wpList_append_own _ rfl _ _ 44 rfl wq.heap.size 52 i0 _ 7 56 Try.underlying44 hi hz0 hz1 hz2 rfl (by decide) _ _ _ rfl (owns_ext hown.out (hEq.out.trans (by (repeat (with_reducible (first | exact Ext.refl _ | assumption | exact held_left (by assumption) | apply Ext.drewN | apply Ext.drew | apply Ext.alloc | (refine Ext.setCell ?_ (by first | (simp; done) | (simp; omega) | omega) _) | (refine Ext.trans ?_ (by assumption)) | (refine Ext.trans ?_ (held_left (by assumption))))))))) ⟨_, 0, none⟩ 1 1 (S.rc (colUp (ps.map PR.l) k ps.length)) rfl rfl ?c1 ?c2 ?c3 ?c4 ?c5 ?_)
              case c1 => exact cells_new _ (encT (colUp (ps.map PR.l) k ps.length)) _
              case c2 => intro u hu; simp [S.rc] at hu; rcases hu with rfl | rfl | rfl | rfl | rfl | rfl | rfl <;> rfl
              case c3 => unfold maxLen; omega
              case c4 => omega
              case c5 => have := hE2.out.size; have := hEq.out.size; simp; omega
              intro v' w5 hown' hgrow _
              have HE5 := Hid.mk' (Below.grown ((hE2.out.trans hEq.out).alloc (.cells (encT (colUp (ps.map PR.l) k ps.length)) 52)) hgrow (by have := hE2.out.size; have := hEq.out.size; simp; omega) (fun g hg => (World.ownsRow.lt hown.out g hg).1))
              have HO5 := Hid.mk' hown'
              clear hown' hgrow s0 sl
              go_wp2
              go_roundg (cols.length - (k + 1))
              case measure => omega
              case rel => exact ⟨k + 1, by omega, by go_num, Hid.mk' (by rw [HT.out, HTg.out]; exact HO5.out), HE5⟩
        · obtain rfl : k = cols.length := by omega
          have hown2 := hown.out
          rw [List.take_of_length_le (by rw [List.length_map, colsL_len]; exact Nat.le_refl _)] at hown2
          obtain ⟨ao, co, rfl⟩ := owns_shape hown2
          have HT3 := Hid.mk' (Sl.of_owns (base := wq.heap.size) (e := 52) (xss := (colsL (ps.map PR.l) cols.length).map S.rc) (by rw [List.length_map, colsL_len]; exact hown2) (by intro xs hxs; simp at hxs; obtain ⟨_, _, rfl⟩ := hxs; rfl))
          clear hown hown2 hlt
          go_wp2
          go_ret2
          exact RColPost.good HC.out rfl HT3.out HEw2.out

end Go.Proofs.Ytdbepkfblfhlhaa
