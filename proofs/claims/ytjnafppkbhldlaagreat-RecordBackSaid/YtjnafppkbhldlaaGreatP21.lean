/-
An event of a payload taken: the program's refs.
-/
import Derived.Lib.AppendZerosOnto
import Derived.Laws.AppendOwn
import Derived.Shelf.Strings.OnBuilder
import Derived.Test.YtjnafppkbhldlaaGreatP20
set_option maxRecDepth 100000
set_option maxHeartbeats 16000000
namespace Go.Proofs.YtjnafppkbhldlaaGreat
open Go.RowKit
theorem takeref_any (g d : Nat) (st : RS) (w : World) (h : RD w g d st) :
    Calls Tryz.prog 199 #[.pointer (some ⟨g, 0, none⟩)] w (RPost g d w (.agg #[.int .u32 (refR st).1.o, .int .u32 (refR st).1.v]) (refR st).2) := by
  have H := Hm h
  have HN1 := Hm (fun W (h : RD W g d st) => number_any g d st W h)
  have HN2 := Hm (fun W (h : RD W g d (uintR 4294967295 st).2) => number_any g d _ W h)
  have HR : Hid (refR st = (⟨((uintR 4294967295 st).1 : Nat), ((uintR 4294967295 (uintR 4294967295 st).2).1 : Nat)⟩, (uintR 4294967295 (uintR 4294967295 st).2).2)) := Hm rfl
  have hlt := h.lt
  unfold RPost at HN1 HN2 ⊢
  rw [HR.out]
  simp only
  generalize (uintR 4294967295 (uintR 4294967295 st).2).2 = s2 at HN2 ⊢
  generalize (uintR 4294967295 (uintR 4294967295 st).2).1 = y at HN2 ⊢
  generalize (uintR 4294967295 st).2 = s1 at HN1 HN2 ⊢
  generalize (uintR 4294967295 st).1 = x at HN1 ⊢
  clear h HR
  have hgw : g ≠ w.heap.size := by omega
  go_enter Tryz.func199, Tryz.ntmps199
  go_upto_region 2 with (go_at_call 257; refine (HN1.out _ (H.out.ext (by exact eX))).mono ?_; rintro e w1 ⟨rfl, h1, t1⟩; have H1 := Hm h1; have T1 := Hm ((Tch.of_ext ((Ext.refl w).alloc _)).trans t1); have HV1 := Hm ((Blk.new w #[.int .u32 0, .int .u32 0] 94).tch t1 hgw.symm); clear h1 t1)
  go_wp2_with (go_at_call 257; refine (HN2.out _ H1.out).mono ?_; rintro e w2 ⟨rfl, h2, t2⟩; have H2 := Hm h2; have T2 := Hm (T1.out.trans t2); have HV2 := Hm (HV1.out.tch t2 hgw.symm); clear h2 t2; have gv := HV2.out.cell; have fv := HV2.out.frozen; have zv := HV2.out.lt)
  have HG := Hm (And.intro hlt hgw)
  have hr : RD ((w2.setCell ⟨w.heap.size, 0, none⟩ (.int .u32 x)).setCell ⟨w.heap.size, 1, none⟩ (.int .u32 y)) g d s2 := (H2.out.set HG.out.1 0 _).set HG.out.1 1 _
  have ht : Tch g w ((w2.setCell ⟨w.heap.size, 0, none⟩ (.int .u32 x)).setCell ⟨w.heap.size, 1, none⟩ (.int .u32 y)) := (T2.out.setNew (Nat.le_refl _) 0 _).setNew (Nat.le_refl _) 1 _
  simp [bodyPost, results, Tryz.results199, go_sem, *]
def Fw (B : Nat) (a : Option Addr) : Prop := ∀ k o, a = some ⟨k, o, none⟩ → B ≤ k
theorem Fw.none (B : Nat) : Fw B none := fun _ _ e => by cases e
theorem Tch.kp {g : Nat} {w w' : World} (h : Tch g w w') : Kp (fun x => x = g) w w' := ⟨h.os, h.tape, h.output, h.size, h.block⟩
theorem Tryz.infoRfT : (Tryz.prog.info? 94).map (fun i => (i.zero, i.size, i.bytes)) = some (some (.agg #[.int .u32 0, .int .u32 0]), 2, 8) := by kernel_rfl
theorem refsR_succ (st : RS) (k : Nat) : refsR st (k + 1) = ((refsR st k).1 ++ [(refR (refsR st k).2).1], (refR (refsR st k).2).2) := rfl
theorem truncate_any (Q g d : Nat) (st : RS) (W0 w : World) (hE : Ext W0 w) (hQ : W0.heap.size ≤ Q) (hg0 : W0.heap.size ≤ g) (hQd : Q < d) (hQg : Q < g) (h : RD w g d st)
    (hP : Blk w Q #[.int .u8 7, .int .u32 0, .int .u32 0, .int .u8 0, .slice none 0 0, .slice none 0 0, .slice none 0 0, .int .u8 0, .slice none 0 0, .slice none 0 0] 124) :
    Calls Tryz.prog 123 #[.pointer (some ⟨Q, 0, none⟩), .pointer (some ⟨g, 0, none⟩)] w fun e w' => e = .returned (.tuple #[]) ∧ ∃ ra rc,
      Blk w' Q #[.int .u8 7, .int .u32 0, .int .u32 0, .int .u8 0, .slice none 0 0, .slice none 0 0, .slice ra (truncR st).1.e.rs.length rc, .int .u8 (truncR st).1.e.fl, .slice none 0 0, .slice none 0 0] 124 ∧
      Sl w' (.slice ra (truncR st).1.e.rs.length rc) 2 ((truncR st).1.e.rs.map Rf.cells) ∧ RD w' g d (truncR st).2 ∧ Ext W0 w' ∧ Fw W0.heap.size ra := by
  obtain ⟨i0, hi, hz0, hz1, hz2⟩ := info_parts Tryz.infoRfT
  have hT : truncR st = (⟨⟨7, 0, 0, 0, [], [], (refsR (uintR 8 (byteR st).2).2 (uintR 8 (byteR st).2).1).1, (byteR st).1⟩, [], []⟩, (refsR (uintR 8 (byteR st).2).2 (uintR 8 (byteR st).2).1).2) := rfl
  have HBY := Hm (rbyte_any g d st w h)
  have HUI := Hm (fun W (h : RD W g d (byteR st).2) => ruint2_any g d (byteR st).2 8 W h (by decide))
  have hn8 := uintR_le (st := (byteR st).2) 8
  have hlt := h.lt
  unfold RPost at HBY HUI
  rw [hT]
  simp only
  generalize (uintR 8 (byteR st).2).2 = s2 at HUI hn8 ⊢
  generalize (uintR 8 (byteR st).2).1 = n at HUI hn8 ⊢
  generalize (byteR st).2 = s1 at HBY HUI ⊢
  generalize (byteR st).1 = f at HBY ⊢
  have HP := Hm hP
  have HE := Hm hE
  have HQ := Hm (And.intro hQ (And.intro hQd (And.intro hQg hg0)))
  have HTR := Hm (fun (S : RS) W (h : RD W g d S) => takeref_any g d S W h)
  unfold RPost at HTR
  have HN8 := Hm hn8
  have hqg : Q ≠ g := by omega
  clear h hP hE hT hQ hQd hg0
  go_enter Tryz.func123, Tryz.ntmps123
  go_upto_region 1 with (go_at_call 197; refine HBY.out.mono ?_; rintro e w1 ⟨rfl, h1, t1⟩; have H1 := Hm h1; have T1 := Hm t1; have HV1 := Hm (HP.out.tch t1 hqg); clear h1 t1; have gv := HV1.out.cell; have fv := HV1.out.frozen; have zv := HV1.out.lt)
  have HB2 : Hid (Blk (w1.setCell ⟨Q, 7, none⟩ (.int .u8 f)) Q #[.int .u8 7, .int .u32 0, .int .u32 0, .int .u8 0, .slice none 0 0, .slice none 0 0, .slice none 0 0, .int .u8 f, .slice none 0 0, .slice none 0 0] 124) := Hm (by
    have := HV1.out.set 7 (.int .u8 f)
    simpa only [List.setIfInBounds_toArray, List.set_cons_zero, List.set_cons_succ] using this)
  have HR2 : Hid (RD (w1.setCell ⟨Q, 7, none⟩ (.int .u8 f)) g d s1) := Hm (H1.out.tch (Tch.set1 Q w1 7 _) hqg (.inl HQ.out.2.1))
  have HE2 : Hid (Ext W0 (w1.setCell ⟨Q, 7, none⟩ (.int .u8 f))) := Hm ((Tch.ext HE.out HQ.out.2.2.2 T1.out).setCell HQ.out.1 _)
  obtain ⟨w2, hw2⟩ : ∃ x, x = w1.setCell ⟨Q, 7, none⟩ (.int .u8 f) := ⟨_, rfl⟩
  rw [← hw2] at HB2 HR2 HE2 ⊢
  clear gv fv zv hw2 HV1 T1 H1 HP HE HBY
  go_upto_region 2 with (go_at_call 198; refine (HUI.out _ HR2.out).mono ?_; rintro e w3 ⟨rfl, h3, t3⟩; have H3 := Hm h3; have HB3 := Hm (HB2.out.tch t3 hqg); have HE3 := Hm (Tch.ext HE2.out HQ.out.2.2.2 t3); clear h3 t3)
  have HG3 := Hm (And.intro H3.out.lt HB3.out.lt)
  clear HB2 HR2 HE2 HUI
  go_loopg [12] n (fun z i wr => ∃ (k : Nat) (va : Option Addr) (vc : Nat), z + k = n ∧ i = .int .u64 k ∧ Hid (Blk wr Q #[.int .u8 7, .int .u32 0, .int .u32 0, .int .u8 0, .slice none 0 0, .slice none 0 0, .slice va k vc, .int .u8 f, .slice none 0 0, .slice none 0 0] 124) ∧ Hid (wr.ownsRow w3.heap.size 94 2 (.slice va k vc) k ((refsR s2 k).1.map Rf.cells).flatten) ∧ Hid (RD wr g d (refsR s2 k).2) ∧ Hid (Ext W0 wr) ∧ Hid (w3.heap.size ≤ wr.heap.size))
  case atStart => exact ⟨0, none, 0, by omega, rfl, HB3, Hm (World.ownsRow_nil _ _ _ _), H3, HE3, Hm (Nat.le_refl _)⟩
  case round =>
    obtain ⟨k, va, vc, hzk, rfl, hX, hown, hR, hE, hSZ⟩ := hrel
    have hzc := hE.out.size
    by_cases hlt : k < n
    · have HTK : Hid (refsR s2 (k + 1) = ((refsR s2 k).1 ++ [(refR (refsR s2 k).2).1], (refR (refsR s2 k).2).2)) := Hm (refsR_succ s2 k)
      have HTP := Hm (fun W (h : RD W g d (refsR s2 k).2) => HTR.out (refsR s2 k).2 W h)
      obtain ⟨S, hS⟩ : ∃ S, S = (refsR s2 k).2 := ⟨_, rfl⟩
      obtain ⟨A, hA⟩ : ∃ A, A = (refsR s2 k).1 := ⟨_, rfl⟩
      rw [← hS] at HTK HTP hR
      rw [← hA] at HTK hown
      obtain ⟨r, hr⟩ : ∃ r, r = (refR S).1 := ⟨_, rfl⟩
      obtain ⟨S', hS'⟩ : ∃ r, r = (refR S).2 := ⟨_, rfl⟩
      rw [← hr, ← hS'] at HTK HTP
      have HLT := Hm hlt
      have hkn : (k : Int) < (n : Int) := by omega
      have HS : Hid (∀ w', Kp (fun x => x = g ∨ w3.heap.size ≤ x) wr w' → (∀ j, w'.cell? ⟨Q, j, none⟩ = (#[.int .u8 7, .int .u32 0, .int .u32 0, .int .u8 0, .slice none 0 0, .slice none 0 0, .slice va k vc, .int .u8 f, .slice none 0 0, .slice none 0 0])[j]?) ∧ Q < w'.heap.size) := Hm (fun w' h => by
        have h2 := hX.out.kp h (by have := HG3.out; have := HQ.out; omega)
        exact ⟨h2.cell, h2.lt⟩)
      have HOWN := hown
      clear hS hA hr hS'
      go_wp2
      have hA0 : Hid ((fun w' => (∀ j, w'.cell? ⟨Q, j, none⟩ = (#[.int .u8 7, .int .u32 0, .int .u32 0, .int .u8 0, .slice none 0 0, .slice none 0 0, .slice va k vc, .int .u8 f, .slice none 0 0, .slice none 0 0])[j]?) ∧ Q < w'.heap.size) wr.drew) := Hm (HS.out _ (Kp.of_ext (Ext.refl wr).drew))
      refine wp_region_head 10 (fun w' => (∀ j, w'.cell? ⟨Q, j, none⟩ = (#[.int .u8 7, .int .u32 0, .int .u32 0, .int .u8 0, .slice none 0 0, .slice none 0 0, .slice va k vc, .int .u8 f, .slice none 0 0, .slice none 0 0])[j]?) ∧ Q < w'.heap.size) (by kernel_rfl) (by decide) ?_
      (refine wpHd_take (i := 0) (v := ?_) rfl (by kernel_rfl) (by kernel_rfl) (by kernel_rfl) (fun _ _ _ h => h) (Or.inl ⟨by rfl, ?_⟩) hA0.out ?_; rotate_left 1; · (intro w' hS'; (try dsimp only at hS'); go_split_ands; go_simp; try with_reducible rfl))
      (refine wpHd_take (i := 1) (v := ?_) rfl (by kernel_rfl) (by kernel_rfl) (by kernel_rfl) (fun _ _ _ h => h) (Or.inl ⟨by rfl, ?_⟩) hA0.out ?_; rotate_left 1; · (intro w' hS'; (try dsimp only at hS'); go_split_ands; go_simp; try with_reducible rfl))
      (refine wpHd_take (i := 2) (v := ?_) rfl (by kernel_rfl) (by kernel_rfl) (by kernel_rfl) (fun _ _ _ h => h) (Or.inl ⟨by rfl, ?_⟩) hA0.out ?_; rotate_left 1; · (intro w' hS'; (try dsimp only at hS'); go_split_ands; go_simp; try with_reducible rfl))
      (refine wpHd_take (i := 3) (v := ?_) rfl (by kernel_rfl) (by kernel_rfl) (by kernel_rfl) (fun _ _ _ h => h) (Or.inl ⟨by rfl, ?_⟩) hA0.out ?_; rotate_left 1; · (intro w' hS'; (try dsimp only at hS'); go_split_ands; go_simp; try with_reducible rfl))
      (refine wpHd_take (i := 4) (v := ?_) rfl (by kernel_rfl) (by kernel_rfl) (by kernel_rfl) (fun _ _ _ h => h) (Or.inl ⟨by rfl, ?_⟩) hA0.out ?_; rotate_left 1; · (intro w' hS'; (try dsimp only at hS'); go_split_ands; go_simp; try with_reducible rfl))
      (refine wpHd_take (i := 5) (v := ?_) rfl (by kernel_rfl) (by kernel_rfl) (by kernel_rfl) (fun _ _ _ h => h) (Or.inl ⟨by rfl, ?_⟩) hA0.out ?_; rotate_left 1; · (intro w' hS'; (try dsimp only at hS'); go_split_ands; go_simp; try with_reducible rfl))
      (refine wpHd_take (i := 6) (v := ?_) rfl (by kernel_rfl) (by kernel_rfl) (by kernel_rfl) (fun _ _ _ h => h) (Or.inl ⟨by rfl, ?_⟩) hA0.out ?_; rotate_left 1; · (intro w' hS'; (try dsimp only at hS'); go_split_ands; go_simp; try with_reducible rfl))
      clear hA0
      refine wpHd_one (i := 7) rfl rfl (by kernel_rfl) (fun K hK => ?_)
      go_simp
      refine (HTP.out _ (hR.out.ext (Ext.refl wr).drew)).mono ?_
      rintro e w5 ⟨rfl, h5, t5⟩
      have H5 := Hm h5
      have HK5 : Hid (Kp (fun x => x = g) wr w5) := Hm ((Kp.of_ext (S := fun x => x = g) (Ext.refl wr).drew).trans t5.kp (fun x hx _ => hx))
      refine hK.out _ _ (HS.out _ (HK5.out.mono (fun x hx _ => .inl hx))) (fun hA => ?_)
      clear hK K hA h5 t5
      have HOW5 := Hm (owns_kp HOWN.out HK5.out (fun b hb e => by have := (HOWN.out.lt b hb).1; have := HG3.out; omega))
      refine wpHd_one (i := 8) rfl rfl (by kernel_rfl) (fun K hK => ?_)
      go_simp
      refine hK.out _ _ (HS.out _ ((HK5.out.mono (T := fun x => x = g ∨ w3.heap.size ≤ x) (fun x hx _ => .inl hx)).trans (Kp.of_ext (S := fun x => x = g) ((Ext.refl w5).alloc _)) (fun x hx _ => .inl hx))) (fun hA => ?_)
      clear hK K hA
      refine wpHd_one (i := 9) rfl rfl (by kernel_rfl) (fun K hK => ?_)
      refine wp_append_lies _ _ _ 118 (by rfl) w3.heap.size 94 i0 _ 2 8 Tryz.underlying118 hi hz0 hz1 hz2 rfl (by decide) (.slice va k vc) k _ (by rfl) (owns_ext HOW5.out ((Ext.refl w5).alloc _)) ⟨_, 0, none⟩ 1 1 r.cells (by rfl) rfl (cells_new _ #[.int .u32 r.o, .int .u32 r.v] _) (by intro u hu; simp [Rf.cells] at hu; rcases hu with rfl | rfl <;> rfl) (by decide) (by have := HLT.out; have := HN8.out; unfold maxLen; omega) (by have := HLT.out; have := HN8.out; omega) (by have := HK5.out.size; have := hSZ.out; simp; omega) _ rfl ?_
      intro g4 cap4 w4 hown4 hgrow4 hat4 hlt4
      have HO4 := Hm hown4
      have HKA : Hid (Kp (fun x => w3.heap.size ≤ x) w5 w4) := Hm ((Kp.of_ext (S := fun x => w3.heap.size ≤ x) ((Ext.refl w5).alloc _)).trans (Kp.of_grown hgrow4) (fun x hx _ => (HOW5.out.lt x hx).1))
      have HKG : Hid (Kp (fun x => x = g ∨ w3.heap.size ≤ x) wr w4) := Hm ((HK5.out.mono (T := fun x => x = g ∨ w3.heap.size ≤ x) (fun x hx _ => .inl hx)).trans HKA.out (fun x hx _ => .inr hx))
      refine hK.out _ _ (HS.out _ HKG.out) (fun hA => ?_)
      clear hK K hA
      have HR4 : Hid (RD w4 g d S') := Hm ((H5.out.ext ((Ext.refl w5).alloc _)).grown hgrow4 (fun j hj => by have := (HOW5.out.lt j hj).1; have := HG3.out; omega))
      clear hown4 hgrow4 hat4 hlt4
      have hX4 : Hid (Blk w4 Q #[.int .u8 7, .int .u32 0, .int .u32 0, .int .u8 0, .slice none 0 0, .slice none 0 0, .slice va k vc, .int .u8 f, .slice none 0 0, .slice none 0 0] 124) := Hm (hX.out.kp HKG.out (by have := HG3.out; have := HQ.out; omega))
      have gX := hX4.out.cell
      have gXf := hX4.out.frozen
      have zX := hX4.out.lt
      refine wpHd_tail (by kernel_rfl) ?_
      simp only [List.drop_succ_cons, List.drop_zero]
      go_wp2
      go_roundg (n - (k + 1))
      case measure => have := HLT.out; omega
      case rel =>
        refine ⟨k + 1, some ⟨g4, 0, none⟩, cap4, Nat.sub_add_cancel HLT.out, by go_num, Hm ?_, Hm ?_, Hm ?_, Hm ?_, Hm (by have := hSZ.out; have := HKG.out.size; simp [World.setCell]; omega)⟩
        · have := hX4.out.set 6 (.slice (some ⟨g4, 0, none⟩) (k + 1) cap4)
          simpa only [List.setIfInBounds_toArray, List.set_cons_zero, List.set_cons_succ] using this
        · rw [HTK.out, List.map_append, List.flatten_append]
          exact owns_set (by simpa using HO4.out) (by show Q < _; have := HG3.out; omega) _
        · rw [HTK.out]
          exact HR4.out.tch (Tch.set1 Q w4 6 _) hqg (.inl HQ.out.2.1)
        · exact (Kp.ext hE.out (fun x hx _ => by have := HQ.out; have := HG3.out; have := HE3.out.size; omega) HKG.out).setCell HQ.out.1 _
    · obtain rfl : k = n := by omega
      go_wp2
      refine bodyPost_end (results_none rfl _ _ _) rfl ?_
      have hAL : (refsR s2 k).1.length = k := refsR_len s2 k
      rw [hAL]
      refine ⟨rfl, va, vc, hX.out, Sl.of_owns (base := w3.heap.size) (e := 94) (by rw [List.length_map, hAL]; exact hown.out) (by intro xs hxs; simp at hxs; obtain ⟨_, _, rfl⟩ := hxs; rfl), hR.out, hE.out, fun b o e => by have := (hown.out.lt b (by rw [e]; rfl)).1; have := HE3.out.size; omega⟩
theorem RR.owned.cap {N : Nat} {W : World} {q : RR} (h : q.owned N W) : q.r.cols.length ≤ q.c := by
  obtain ⟨_, h⟩ := h
  rcases h with ⟨hv, hn⟩ | ⟨g, cap, cur, hv, _, hb, hn, _⟩
  · omega
  · simp only [Value.slice.injEq] at hv
    omega
theorem cget_not {N g : Nat} {c : Value} {ps : List RR} {o v : Int} {w : World} (hc : Ca w N g c ps) (h : hasR o v (ps.map RR.r) = false) :
    Calls Tryz.prog 92 #[.pointer (some ⟨g, 0, none⟩), .agg #[.int .u32 o, .int .u32 v]] w fun e w' => ∃ (a' : Option Addr) (c' : Nat), e = .returned (.tuple #[.agg #[.int .u32 0, .int .u32 0, .string ⟨#[]⟩, .int .u8 0, .slice a' 0 c'], .bool false]) ∧ RR.in w' ⟨RR.zero.r, a', c'⟩ ∧ Ext w w' := by
  refine (cget_any N g c ps o v w hc).mono fun e w' hq => ?_
  obtain ⟨q, h1, h2, h3, h4⟩ := hq
  have hg : getP o v ps = none := by
    have := getP_is o v ps
    rw [h] at this
    exact Option.not_isSome_iff_eq_none.1 (by rw [this]; simp)
  rw [hg, Option.getD_none] at h2
  obtain ⟨qr, qa, qc⟩ := q
  simp only at h2
  subst h2
  exact ⟨qa, qc, by rw [h1, h]; rfl, h3.in, h4⟩
def PartAt (B Q : Nat) (p : Pt) (W : World) : Prop :=
  ∃ ba bc aa ac ra rc ha hc ga gc, Blk W Q #[.int .u8 p.e.kind, .int .u32 p.e.ao, .int .u32 p.e.av, .int .u8 p.e.old, .slice ba p.e.b.length bc, .slice aa p.e.a.length ac, .slice ra p.e.rs.length rc, .int .u8 p.e.fl, .slice ha p.hb.length hc, .slice ga p.ha.length gc] 124 ∧
    Sl W (.slice ba p.e.b.length bc) 5 (p.e.b.map K.pc) ∧ Sl W (.slice aa p.e.a.length ac) 5 (p.e.a.map K.pc) ∧ Sl W (.slice ra p.e.rs.length rc) 2 (p.e.rs.map Rf.cells) ∧ Sl W (.slice ha p.hb.length hc) 2 (p.hb.map Ho.cells) ∧ Sl W (.slice ga p.ha.length gc) 2 (p.ha.map Ho.cells) ∧ (Fw B ba ∧ Fw B aa ∧ Fw B ra ∧ Fw B ha ∧ Fw B ga)
theorem Sl.nil0 (W : World) (k : Nat) : Sl W (.slice none 0 0) k [] := ⟨none, 0, rfl, .inl rfl⟩
theorem rows_any (kind ver : Int) (Q g d : Nat) (st : RS) (N gc0 : Nat) (c : Value) (ps : List RR) (W0 w : World) (_hk : 4 ≤ kind ∧ kind ≤ 6) (hE : Ext W0 w) (hQ : W0.heap.size ≤ Q) (hg0 : W0.heap.size ≤ g) (hQd : Q < d) (hQg : Q < g) (h : RD w g d st) (hc : Ca W0 N gc0 c ps) (hP : Blk w Q #[.int .u8 kind, .int .u32 0, .int .u32 0, .int .u8 0, .slice none 0 0, .slice none 0 0, .slice none 0 0, .int .u8 0, .slice none 0 0, .slice none 0 0] 124) :
    Calls Tryz.prog 124 #[.pointer (some ⟨Q, 0, none⟩), .pointer (some ⟨g, 0, none⟩), .pointer (some ⟨gc0, 0, none⟩), .int .u8 ver] w fun e w' => e = .returned (.tuple #[]) ∧ PartAt W0.heap.size Q (rowsR kind (ps.map RR.r) ver st).1 w' ∧ RD w' g d (rowsR kind (ps.map RR.r) ver st).2 ∧ Ext W0 w' := by
  have HTR := Hm (takeref_any g d st w h)
  have hlt := h.lt
  have HRN : Hid (getR (refR st).1.o (refR st).1.v (ps.map RR.r) = none → rowsR kind (ps.map RR.r) ver st = (⟨⟨kind, (refR st).1.o, (refR st).1.v, 0, [], [], [], 0⟩, [], []⟩, giveS (refR st).2 10)) := Hm (fun e => by unfold rowsR; rw [e])
  have HRS : Hid (∀ r, getR (refR st).1.o (refR st).1.v (ps.map RR.r) = some r → rowsR kind (ps.map RR.r) ver st = rowR kind ver (refR st).1 r (refR st).2) := Hm (fun r e => by unfold rowsR; rw [e])
  obtain ⟨R, hR⟩ : ∃ R, R = rowsR kind (ps.map RR.r) ver st := ⟨_, rfl⟩
  rw [← hR] at HRN HRS ⊢
  clear hR
  unfold RPost at HTR
  obtain ⟨⟨ao, av⟩, hao⟩ : ∃ r, r = (refR st).1 := ⟨_, rfl⟩
  rw [← hao] at HTR HRN HRS
  simp only at HTR HRN HRS
  generalize (refR st).2 = s1 at HTR HRN HRS
  have HGY := Hm (fun (r : Rl) (hg : getR ao av (ps.map RR.r) = some r) W (h : Ext W0 W) => cget_is (hc.ext h) hg)
  have HGN := Hm (fun (hg : hasR ao av (ps.map RR.r) = false) W (h : Ext W0 W) => cget_not (hc.ext h) hg)
  have HBY := Hm (fun S W h => rbyte_any g d S W h)
  have HFA := Hm (fun S x W h => fail_any g d S x W h)
  unfold RPost at HBY HFA
  have HFB := Hm (fun (r : Rl) (hg : getR ao av (ps.map RR.r) = some r) => (show r.nm.size ≤ 9223372036854775807 ∧ (∀ c ∈ r.cols, c.nm.size ≤ 9223372036854775807) ∧ r.cols.length ≤ 1000 from by
    obtain ⟨p, hp, hpr⟩ := List.mem_map.1 (getR_some hg).1
    have hwb := hc.wb p hp
    have hn16 := hc.n16 hp
    rw [hpr] at hwb hn16
    exact ⟨hwb.nm, hwb.cs, by omega⟩))
  have HP := Hm hP
  have HE := Hm hE
  have HQ := Hm (And.intro hQ (And.intro hQd (And.intro hQg hg0)))
  have hqg : Q ≠ g := by omega
  clear h hP hE hQ hQd hg0 hc hao
  go_enter Tryz.func124, Tryz.ntmps124
  go_upto_region 1 with (go_at_call 199; refine HTR.out.mono ?_; rintro e w1 ⟨rfl, h1, t1⟩; have H1 := Hm h1; have HV1 := Hm (HP.out.tch t1 hqg); have HE1 := Hm (Tch.ext HE.out HQ.out.2.2.2 t1); clear h1 t1; have gv := HV1.out.cell; have fv := HV1.out.frozen; have zv := HV1.out.lt)
  have HB2 : Hid (Blk ((w1.setCell ⟨Q, 1, none⟩ (.int .u32 ao)).setCell ⟨Q, 2, none⟩ (.int .u32 av)) Q #[.int .u8 kind, .int .u32 ao, .int .u32 av, .int .u8 0, .slice none 0 0, .slice none 0 0, .slice none 0 0, .int .u8 0, .slice none 0 0, .slice none 0 0] 124) := Hm (by
    have := (HV1.out.set 1 (.int .u32 ao)).set 2 (.int .u32 av)
    simpa only [List.setIfInBounds_toArray, List.set_cons_zero, List.set_cons_succ] using this)
  have HR2 : Hid (RD ((w1.setCell ⟨Q, 1, none⟩ (.int .u32 ao)).setCell ⟨Q, 2, none⟩ (.int .u32 av)) g d s1) := Hm ((H1.out.tch (Tch.set1 Q w1 1 _) hqg (.inl HQ.out.2.1)).tch (Tch.set1 Q _ 2 _) hqg (.inl HQ.out.2.1))
  have HE2 : Hid (Ext W0 ((w1.setCell ⟨Q, 1, none⟩ (.int .u32 ao)).setCell ⟨Q, 2, none⟩ (.int .u32 av))) := Hm ((HE1.out.setCell HQ.out.1 _).setCell HQ.out.1 _)
  obtain ⟨w2, hw2⟩ : ∃ x, x = (w1.setCell ⟨Q, 1, none⟩ (.int .u32 ao)).setCell ⟨Q, 2, none⟩ (.int .u32 av) := ⟨_, rfl⟩
  rw [← hw2] at HB2 HR2 HE2 ⊢
  clear gv fv zv hw2 HV1 H1 HP HE HTR HE1
  have gv := HB2.out.cell
  have fv := HB2.out.frozen
  have zv := HB2.out.lt
  cases hg : getR ao av (ps.map RR.r) with
  | none =>
    have HGX := Hm (HGN.out (getR_none.1 hg))
    obtain rfl := HRN.out hg
    clear hg HRN HRS
    go_wp2_with (first
      | (go_at_call 92; refine (HGX.out _ HE2.out).mono ?_; rintro e w3 ⟨qa, qc, rfl, -, hb3⟩; have HX3 := Hm hb3; clear hb3 gv fv zv; (try simp only))
      | (go_at_call 200; refine (HFA.out s1 10 _ (HR2.out.ext (HX3.out.alloc _))).mono ?_; rintro e w4 ⟨rfl, h4, t4⟩; have H4 := Hm h4; have HB4 := Hm ((HB2.out.ext (HX3.out.alloc _)).tch t4 hqg); have HE4 := Hm (Tch.ext (HE2.out.trans (HX3.out.alloc _)) HQ.out.2.2.2 t4); clear h4 t4))
    refine bodyPost_ret (results_none rfl _ _ _) rfl ?_
    exact ⟨rfl, ⟨none, 0, none, 0, none, 0, none, 0, none, 0, HB4.out, Sl.nil0 _ _, Sl.nil0 _ _, Sl.nil0 _ _, Sl.nil0 _ _, Sl.nil0 _ _, Fw.none _, Fw.none _, Fw.none _, Fw.none _, Fw.none _⟩, H4.out, HE4.out⟩
  | some r =>
    have HGX := Hm (HGY.out r hg)
    have HFB1 := Hm (HFB.out r hg)
    have HRR := Hm (HRS.out r hg)
    clear hg HGY HGN HFB HRN HRS
    obtain ⟨oid, vr, nm, id, cols⟩ := r
    simp only at HFB1 HGX HRR
    go_upto_region 4 with (go_at_call 92; refine (HGX.out _ HE2.out).mono ?_; rintro e w3 ⟨⟨qr, qa, qc⟩, rfl, hqr, hqo, hb3⟩; simp only at hqr; subst hqr; have HQO := Hm hqo; have HX3 := Hm hb3; clear hqo hb3 gv fv zv; (try simp only))
    have HXB := Hm (Blk.new w3 #[.int .u32 oid, .int .u32 vr, .string nm, .int .u8 id, .slice qa cols.length qc] 174)
    have HQL := Hm (HQO.out.in.ext ((Ext.refl w3).alloc (.cells #[.int .u32 oid, .int .u32 vr, .string nm, .int .u8 id, .slice qa cols.length qc] 174)))
    have HQA := Hm (fun b o (e : qa = some ⟨b, o, none⟩) => (RR.owned.at_ HQO.out e).1)
    have HQC := Hm HQO.out.cap
    have HPG := Hm (HB2.out.ext (HX3.out.alloc (.cells #[.int .u32 oid, .int .u32 vr, .string nm, .int .u8 id, .slice qa cols.length qc] 174)))
    have HRG := Hm (HR2.out.ext (HX3.out.alloc (.cells #[.int .u32 oid, .int .u32 vr, .string nm, .int .u8 id, .slice qa cols.length qc] 174)))
    have HEG := Hm (HE2.out.trans (HX3.out.alloc (.cells #[.int .u32 oid, .int .u32 vr, .string nm, .int .u8 id, .slice qa cols.length qc] 174)))
    have HSZ := Hm (And.intro HB2.out.lt (And.intro HR2.out.lt HX3.out.size))
    obtain ⟨X, hX⟩ : ∃ X, X = w3.heap.size := ⟨_, rfl⟩
    obtain ⟨wG, hwG⟩ : ∃ W, W = w3.alloc (.cells #[.int .u32 oid, .int .u32 vr, .string nm, .int .u8 id, .slice qa cols.length qc] 174) := ⟨_, rfl⟩
    rw [← hX] at HXB HSZ ⊢
    rw [← hwG] at HXB HQL HPG HRG HEG ⊢
    simp only at HQL HQA HQC
    clear hX hwG HQO HB2 HR2 HE2 HX3 HGX
    have gv := HPG.out.cell
    have fv := HPG.out.frozen
    have zv := HPG.out.lt
    go_upto_if 35 with (fail)
    go_cut [] (fun wx => Hid (Blk wx Q #[.int .u8 kind, .int .u32 ao, .int .u32 av, .int .u8 (oldR kind s1).1, .slice none 0 0, .slice none 0 0, .slice none 0 0, .int .u8 0, .slice none 0 0, .slice none 0 0] 124) ∧ Hid (RD wx g d (oldR kind s1).2) ∧ Hid (Kp (fun x => x = Q ∨ x = g) wG wx))
    case first =>
      by_cases h4 : kind = 4
      · have h4' : (kind != 4) = false := by simpa using h4
        have HO : Hid (oldR kind s1 = (0, s1)) := Hm (if_pos h4)
        clear h4
        go_wp2
        go_meet
        case rel => rw [HO.out]; exact ⟨HPG, HRG, Hm Kp.refl⟩
      · have h4' : (kind != 4) = true := by simpa using h4
        have HO : Hid (oldR kind s1 = byteR s1) := Hm (if_neg h4)
        have HB := Hm (HBY.out s1 _ HRG.out)
        obtain ⟨o, ho⟩ : ∃ o, o = byteR s1 := ⟨_, rfl⟩
        rw [← ho] at HB HO
        clear h4 ho
        go_wp2_with (go_at_call 197; refine HB.out.mono ?_; rintro e w4 ⟨rfl, h4, t4⟩; have H4 := Hm h4; have HP4 := Hm (HPG.out.tch t4 hqg); have HK4 := Hm (t4.kp.mono (T := fun x => x = Q ∨ x = g) (fun x hx _ => .inr hx)); clear h4 t4 gv fv zv; have gv := HP4.out.cell; have fv := HP4.out.frozen; have zv := HP4.out.lt)
        go_meet
        case rel =>
          rw [HO.out]
          refine ⟨Hm ?_, Hm (H4.out.tch (Tch.set1 Q _ 3 _) hqg (.inl HQ.out.2.1)), Hm (HK4.out.trans (T := fun x => x = Q ∨ x = g) (Kp.set _ _ (.inl rfl)) (fun x hx _ => hx))⟩
          have := HP4.out.set 3 (.int .u8 o.1)
          simpa only [List.setIfInBounds_toArray, List.set_cons_zero, List.set_cons_succ] using this
    case rest =>
    obtain ⟨HP1, HR1, HK1⟩ := hcut
    obtain ⟨old, hold⟩ : ∃ o, o = (oldR kind s1).1 := ⟨_, rfl⟩
    obtain ⟨s2, hs2⟩ : ∃ o, o = (oldR kind s1).2 := ⟨_, rfl⟩
    have HRO : Hid (R = (⟨⟨kind, ao, av, old, (befR (⟨oid, vr, nm, id, cols⟩ : Rl) ver old (capR old s2)).1.1, (aftR (⟨oid, vr, nm, id, cols⟩ : Rl) ver kind (befR (⟨oid, vr, nm, id, cols⟩ : Rl) ver old (capR old s2)).2).1.1, [], 0⟩, (befR (⟨oid, vr, nm, id, cols⟩ : Rl) ver old (capR old s2)).1.2, (aftR (⟨oid, vr, nm, id, cols⟩ : Rl) ver kind (befR (⟨oid, vr, nm, id, cols⟩ : Rl) ver old (capR old s2)).2).1.2⟩, (aftR (⟨oid, vr, nm, id, cols⟩ : Rl) ver kind (befR (⟨oid, vr, nm, id, cols⟩ : Rl) ver old (capR old s2)).2).2)) := Hm (by rw [HRR.out, hold, hs2]; rfl)
    rw [← hold] at HP1
    rw [← hs2] at HR1
    clear hold hs2 gv fv zv HRR HBY
    have gv := HP1.out.cell
    have fv := HP1.out.frozen
    have zv := HP1.out.lt
    go_upto_if 47 with (fail)
    go_cut [] (fun wx => Hid (Blk wx Q #[.int .u8 kind, .int .u32 ao, .int .u32 av, .int .u8 old, .slice none 0 0, .slice none 0 0, .slice none 0 0, .int .u8 0, .slice none 0 0, .slice none 0 0] 124) ∧ Hid (RD wx g d (capR old s2)) ∧ Hid (Kp (fun x => x = Q ∨ x = g) wG wx))
    case first =>
      by_cases h2 : 2 < old
      · have HO : Hid (capR old s2 = failS s2 14) := Hm (by unfold capR failS; rw [if_pos h2, if_pos (by decide)])
        have HF := Hm (HFA.out s2 14 _ HR1.out)
        go_wp2_with (go_at_call 200; refine HF.out.mono ?_; rintro e w4 ⟨rfl, h4, t4⟩; have H4 := Hm h4; have HP4 := Hm (HP1.out.tch t4 hqg); have HK4 := Hm (HK1.out.trans (t4.kp.mono (T := fun x => x = Q ∨ x = g) (fun x hx _ => .inr hx)) (fun x hx _ => hx)); clear h4 t4)
        go_meet
        case rel => rw [HO.out]; exact ⟨HP4, H4, HK4⟩
      · have HO : Hid (capR old s2 = s2) := Hm (if_neg h2)
        go_wp2
        go_meet
        case rel => rw [HO.out]; exact ⟨HP1, HR1, HK1⟩
    case rest =>
    obtain ⟨HP2, HR2, HK2⟩ := hcut
    clear gv fv zv HP1 HR1 HK1 HFA
    obtain ⟨s3, hs3⟩ : ∃ o, o = capR old s2 := ⟨_, rfl⟩
    rw [← hs3] at HR2 HRO
    clear hs3
    have gv := HP2.out.cell
    have fv := HP2.out.frozen
    have zv := HP2.out.lt
    have HTA := Hm (fun S W (h : RD W g d S) (hk : Kp (fun x => x = Q ∨ x = g) wG W) => take_any g d S oid vr nm id cols qa qc ver W h (HQL.out.kp hk (fun h0 b o e => by have := HQA.out b o e; have := HSZ.out; omega)) (fun b o e _ => by have := HQA.out b o e; have := HSZ.out; omega) HQC.out HFB1.out.2.2 HFB1.out.2.1 HFB1.out.1)
    unfold TkPost at HTA
    simp only [take_same] at HTA
    have HXW := Hm (fun W (hk : Kp (fun x => x = Q ∨ x = g) wG W) => HXB.out.kp hk (by have := HSZ.out; omega))
    have gx := (HXW.out _ HK2.out).cell
    have zx := (HXW.out _ HK2.out).lt
    obtain ⟨RB, hRB⟩ : ∃ o, o = befR (⟨oid, vr, nm, id, cols⟩ : Rl) ver old s3 := ⟨_, rfl⟩
    rw [← hRB] at HRO
    have HRB := Hm hRB
    clear hRB HXB
    go_upto_if 55 with (fail)
    go_cut [] (fun wx => ∃ ba bc ha hc, Hid (Blk wx Q (#[.int .u8 kind, .int .u32 ao, .int .u32 av, .int .u8 old, .slice ba RB.1.1.length bc, .slice none 0 0, .slice none 0 0, .int .u8 0, .slice ha RB.1.2.length hc, .slice none 0 0]) 124) ∧ Hid (Sl wx (.slice ba RB.1.1.length bc) 5 (RB.1.1.map K.pc)) ∧ Hid (Sl wx (.slice ha RB.1.2.length hc) 2 (RB.1.2.map Ho.cells)) ∧ Hid ((∀ k o, ba = some ⟨k, o, none⟩ → wG.heap.size ≤ k) ∧ (∀ k o, ha = some ⟨k, o, none⟩ → wG.heap.size ≤ k)) ∧ Hid (RD wx g d RB.2) ∧ Hid (Kp (fun x => x = Q ∨ x = g) wG wx))
    case first =>
      by_cases h0 : old = 0
      · have h0' : (old != 0) = false := by simpa using h0
        have HO : Hid (RB = (([], []), s3)) := Hm (by rw [HRB.out]; exact if_pos h0)
        clear h0
        go_wp2
        go_meet
        case rel => rw [HO.out]; exact ⟨none, 0, none, 0, HP2, Hm (Sl.nil0 _ _), Hm (Sl.nil0 _ _), Hm ⟨(fun _ _ e => by cases e), (fun _ _ e => by cases e)⟩, HR2, HK2⟩
      · have h0' : (old != 0) = true := by simpa using h0
        have HO : Hid (RB = takeT (⟨oid, vr, nm, id, cols⟩ : Rl) ver s3) := Hm (by rw [HRB.out]; exact if_neg h0)
        have HF := Hm (HTA.out s3 _ HR2.out HK2.out)
        rw [← HO.out] at HF
        clear h0
        go_wp2_with (go_at_call 201; refine HF.out.mono ?_; rintro e w4 ⟨a1, c1, a2, c2, rfl, hs1, hs2, hb1, hb2, h4, t4⟩; have H4 := Hm h4; have HS1 := Hm hs1; have HS2 := Hm hs2; have HBB := Hm (And.intro hb1 hb2); have HP4 := Hm (HP2.out.tch t4 hqg); have HK4 := Hm (HK2.out.trans (t4.kp.mono (T := fun x => x = Q ∨ x = g) (fun x hx _ => .inr hx)) (fun x hx _ => hx)); clear h4 t4 hs1 hs2 hb1 hb2 gv fv zv gx zx; have gv := HP4.out.cell; have fv := HP4.out.frozen; have zv := HP4.out.lt)
        go_meet
        case rel =>
          have hsz := HK2.out.size
          have hz := HSZ.out
          have hzG := HPG.out.lt
          have hk2 : Kp (fun x => x = Q) w4 ((w4.setCell ⟨Q, 4, none⟩ (.slice a1 RB.1.1.length c1)).setCell ⟨Q, 8, none⟩ (.slice a2 RB.1.2.length c2)) := (Kp.set (S := fun x => x = Q) _ _ rfl).trans (Kp.set (S := fun x => x = Q) _ _ rfl) (fun x hx _ => hx)
          refine ⟨a1, c1, a2, c2, Hm ?_, Hm (HS1.out.kp hk2 (fun _ b o e => by have := HBB.out.1 b o e; omega)), Hm (HS2.out.kp hk2 (fun _ b o e => by have := HBB.out.2 b o e; omega)), Hm ⟨fun b o e => by have := HBB.out.1 b o e; omega, fun b o e => by have := HBB.out.2 b o e; omega⟩, Hm ((H4.out.tch (Tch.set1 Q _ 4 _) hqg (.inl HQ.out.2.1)).tch (Tch.set1 Q _ 8 _) hqg (.inl HQ.out.2.1)), Hm (HK4.out.trans (hk2.mono (T := fun x => x = Q ∨ x = g) (fun x hx _ => .inl hx)) (fun x hx _ => hx))⟩
          have := (HP4.out.set 4 (.slice a1 RB.1.1.length c1)).set 8 (.slice a2 RB.1.2.length c2)
          simpa only [List.setIfInBounds_toArray, List.set_cons_zero, List.set_cons_succ] using this
    case rest =>
    obtain ⟨ba, bc, ha, hc, HP3, HSB, HSH, HBB, HR3, HK3⟩ := hcut
    obtain ⟨RC, hRC⟩ : ∃ o, o = aftR (⟨oid, vr, nm, id, cols⟩ : Rl) ver kind RB.2 := ⟨_, rfl⟩
    rw [← hRC] at HRO
    have HRC := Hm hRC
    clear hRC gv fv zv gx zx HP2 HR2 HK2 HRB
    have gv := HP3.out.cell
    have fv := HP3.out.frozen
    have zv := HP3.out.lt
    have gx := (HXW.out _ HK3.out).cell
    have zx := (HXW.out _ HK3.out).lt
    go_upto_if 75 with (fail)
    by_cases h6 : kind = 6
    · have h6' : (kind != 6) = false := by simpa using h6
      have HO : Hid (RC = (([], []), RB.2)) := Hm (by rw [HRC.out]; exact if_pos h6)
      clear h6
      go_wp2
      refine bodyPost_end (results_none rfl _ _ _) rfl ?_
      rw [HRO.out, HO.out]
      exact ⟨rfl, ⟨ba, bc, none, 0, none, 0, ha, hc, none, 0, HP3.out, HSB.out, Sl.nil0 _ _, Sl.nil0 _ _, HSH.out, Sl.nil0 _ _, (fun b o e => by have := HBB.out.1 b o e; have := HEG.out.size; omega), Fw.none _, Fw.none _, (fun b o e => by have := HBB.out.2 b o e; have := HEG.out.size; omega), Fw.none _⟩, HR3.out, Kp.ext HEG.out (fun x hx _ => by have := HQ.out; omega) HK3.out⟩
    · have h6' : (kind != 6) = true := by simpa using h6
      have HO : Hid (RC = takeT (⟨oid, vr, nm, id, cols⟩ : Rl) ver RB.2) := Hm (by rw [HRC.out]; exact if_neg h6)
      have HF := Hm (HTA.out RB.2 _ HR3.out HK3.out)
      rw [← HO.out] at HF
      clear h6
      go_wp2_with (go_at_call 201; refine HF.out.mono ?_; rintro e w4 ⟨a1, c1, a2, c2, rfl, hs1, hs2, hb1, hb2, h4, t4⟩; have H4 := Hm h4; have HS1 := Hm hs1; have HS2 := Hm hs2; have HBD := Hm (And.intro hb1 hb2); have HT4 := Hm t4; have HP4 := Hm (HP3.out.tch t4 hqg); have HK4 := Hm (HK3.out.trans (t4.kp.mono (T := fun x => x = Q ∨ x = g) (fun x hx _ => .inr hx)) (fun x hx _ => hx)); clear h4 t4 hs1 hs2 hb1 hb2 gv fv zv gx zx; have gv := HP4.out.cell; have fv := HP4.out.frozen; have zv := HP4.out.lt)
      refine bodyPost_end (results_none rfl _ _ _) rfl ?_
      rw [HRO.out]
      have hsz := HK3.out.size
      have hz := HSZ.out
      have hzG := HPG.out.lt
      have hlg := HRG.out.lt
      have hk2 : Kp (fun x => x = Q) w4 ((w4.setCell ⟨Q, 5, none⟩ (.slice a1 RC.1.1.length c1)).setCell ⟨Q, 9, none⟩ (.slice a2 RC.1.2.length c2)) := (Kp.set (S := fun x => x = Q) _ _ rfl).trans (Kp.set (S := fun x => x = Q) _ _ rfl) (fun x hx _ => hx)
      refine ⟨rfl, ⟨ba, bc, a1, c1, none, 0, ha, hc, a2, c2, ?_, (HSB.out.kp HT4.out.kp (fun _ b o e => by have := HBB.out.1 b o e; omega)).kp hk2 (fun _ b o e => by have := HBB.out.1 b o e; omega), HS1.out.kp hk2 (fun _ b o e => by have := HBD.out.1 b o e; omega), Sl.nil0 _ _, (HSH.out.kp HT4.out.kp (fun _ b o e => by have := HBB.out.2 b o e; omega)).kp hk2 (fun _ b o e => by have := HBB.out.2 b o e; omega), HS2.out.kp hk2 (fun _ b o e => by have := HBD.out.2 b o e; omega), (fun b o e => by have := HBB.out.1 b o e; have := HEG.out.size; omega), (fun b o e => by have := HBD.out.1 b o e; have := HEG.out.size; omega), Fw.none _, (fun b o e => by have := HBB.out.2 b o e; have := HEG.out.size; omega), (fun b o e => by have := HBD.out.2 b o e; have := HEG.out.size; omega)⟩, (H4.out.tch (Tch.set1 Q _ 5 _) hqg (.inl HQ.out.2.1)).tch (Tch.set1 Q _ 9 _) hqg (.inl HQ.out.2.1), Kp.ext HEG.out (fun x hx _ => by have := HQ.out; omega) (HK4.out.trans (hk2.mono (T := fun x => x = Q ∨ x = g) (fun x hx _ => .inl hx)) (fun x hx _ => hx))⟩
      have hh := (HP4.out.set 5 (.slice a1 RC.1.1.length c1)).set 9 (.slice a2 RC.1.2.length c2)
      simp only [List.setIfInBounds_toArray, List.set_cons_zero, List.set_cons_succ] at hh
      exact hh
def PartHas (p : Pt) (W : World) (ba aa ra ha ga : Option Addr) (bc ac rc hc gc : Nat) : Prop :=
  Sl W (.slice ba p.e.b.length bc) 5 (p.e.b.map K.pc) ∧ Sl W (.slice aa p.e.a.length ac) 5 (p.e.a.map K.pc) ∧ Sl W (.slice ra p.e.rs.length rc) 2 (p.e.rs.map Rf.cells) ∧ Sl W (.slice ha p.hb.length hc) 2 (p.hb.map Ho.cells) ∧ Sl W (.slice ga p.ha.length gc) 2 (p.ha.map Ho.cells)
theorem PartHas.ext {p : Pt} {W W' : World} {ba aa ra ha ga : Option Addr} {bc ac rc hc gc : Nat} (h : PartHas p W ba aa ra ha ga bc ac rc hc gc) (he : Ext W W') : PartHas p W' ba aa ra ha ga bc ac rc hc gc := ⟨h.1.ext he, h.2.1.ext he, h.2.2.1.ext he, h.2.2.2.1.ext he, h.2.2.2.2.ext he⟩
theorem PartHas.zero (W : World) : PartHas Pt.zero W none none none none none 0 0 0 0 0 := ⟨Sl.nil0 _ _, Sl.nil0 _ _, Sl.nil0 _ _, Sl.nil0 _ _, Sl.nil0 _ _⟩
def TakeQ (p : Pt) (E : Int) (w : World) (e : Ending) (w' : World) : Prop :=
  ∃ ba aa ra ha ga bc ac rc hc gc, e = .returned (.tuple #[.agg #[.int .u8 p.e.kind, .int .u32 p.e.ao, .int .u32 p.e.av, .int .u8 p.e.old, .slice ba p.e.b.length bc, .slice aa p.e.a.length ac, .slice ra p.e.rs.length rc, .int .u8 p.e.fl, .slice ha p.hb.length hc, .slice ga p.ha.length gc], .int .i64 E]) ∧ PartHas p w' ba aa ra ha ga bc ac rc hc gc ∧ Ext w w'
theorem Blk.ten {W : World} {b : Nat} {u0 u1 u2 u3 u4 u5 u6 u7 u8 u9 v0 v1 v2 v3 v4 v5 v6 v7 v8 v9 : Value} {T : TypeId} (h : Blk W b #[u0, u1, u2, u3, u4, u5, u6, u7, u8, u9] T) :
    Blk ((((((((((W.setCell ⟨b, 0, none⟩ v0).setCell ⟨b, 1, none⟩ v1).setCell ⟨b, 2, none⟩ v2).setCell ⟨b, 3, none⟩ v3).setCell ⟨b, 4, none⟩ v4).setCell ⟨b, 5, none⟩ v5).setCell ⟨b, 6, none⟩ v6).setCell ⟨b, 7, none⟩ v7).setCell ⟨b, 8, none⟩ v8).setCell ⟨b, 9, none⟩ v9) b #[v0, v1, v2, v3, v4, v5, v6, v7, v8, v9] T := by
  have h1 := (((((((((h.set 0 v0).set 1 v1).set 2 v2).set 3 v3).set 4 v4).set 5 v5).set 6 v6).set 7 v7).set 8 v8).set 9 v9
  simpa only [List.setIfInBounds_toArray, List.set_cons_zero, List.set_cons_succ] using h1
theorem Ext.ten {W0 W : World} {b : Nat} {v0 v1 v2 v3 v4 v5 v6 v7 v8 v9 : Value} (h : Ext W0 W) (hb : W0.heap.size ≤ b) : Ext W0 ((((((((((W.setCell ⟨b, 0, none⟩ v0).setCell ⟨b, 1, none⟩ v1).setCell ⟨b, 2, none⟩ v2).setCell ⟨b, 3, none⟩ v3).setCell ⟨b, 4, none⟩ v4).setCell ⟨b, 5, none⟩ v5).setCell ⟨b, 6, none⟩ v6).setCell ⟨b, 7, none⟩ v7).setCell ⟨b, 8, none⟩ v8).setCell ⟨b, 9, none⟩ v9) := by
  repeat refine Ext.setCell ?_ hb _
  exact h
theorem Kp.ten {W : World} {b : Nat} {v0 v1 v2 v3 v4 v5 v6 v7 v8 v9 : Value} : Kp (fun x => x = b) W ((((((((((W.setCell ⟨b, 0, none⟩ v0).setCell ⟨b, 1, none⟩ v1).setCell ⟨b, 2, none⟩ v2).setCell ⟨b, 3, none⟩ v3).setCell ⟨b, 4, none⟩ v4).setCell ⟨b, 5, none⟩ v5).setCell ⟨b, 6, none⟩ v6).setCell ⟨b, 7, none⟩ v7).setCell ⟨b, 8, none⟩ v8).setCell ⟨b, 9, none⟩ v9) := by
  have hs : ∀ (W : World) i v, Kp (fun x => x = b) W (W.setCell ⟨b, i, none⟩ v) := fun W i v => Kp.set (S := fun x => x = b) ⟨b, i, none⟩ v rfl
  have ht : ∀ {A B C : World}, Kp (fun x => x = b) A B → Kp (fun x => x = b) B C → Kp (fun x => x = b) A C := fun h k => h.trans k (fun x hx _ => hx)
  exact ht (ht (ht (ht (ht (ht (ht (ht (ht (hs _ _ _) (hs _ _ _)) (hs _ _ _)) (hs _ _ _)) (hs _ _ _)) (hs _ _ _)) (hs _ _ _)) (hs _ _ _)) (hs _ _ _)) (hs _ _ _)
theorem res_part {W : World} {b : Nat} {v0 v1 v2 v3 v4 v5 v6 v7 v8 v9 E : Value} {tm : Array Value} (h : Blk W b #[v0, v1, v2, v3, v4, v5, v6, v7, v8, v9] 124) (ht : tm.getD 8 undef = .pointer (some ⟨b, 0, none⟩)) (hm : tm.getD 9 undef = E) :
    (results Tryz.f56 tm).run Tryz.prog W = .ok (.tuple #[.agg #[v0, v1, v2, v3, v4, v5, v6, v7, v8, v9], E]) W := by
  have c := h.cell
  have c0 := c 0
  have c1 := c 1
  have c2 := c 2
  have c3 := c 3
  have c4 := c 4
  have c5 := c 5
  have c6 := c 6
  have c7 := c 7
  have c8 := c 8
  have c9 := c 9
  clear c h
  simp at c0 c1 c2 c3 c4 c5 c6 c7 c8 c9
  rw [Array.getD_eq_getD_getElem?] at ht hm
  simp [results, Tryz.results56, go_sem, ht, hm, c0, c1, c2, c3, c4, c5, c6, c7, c8, c9]
theorem rectake_any (kind ver : Int) (v : Value) (l : List Int) (N gc0 : Nat) (c : Value) (ps : List RR) (w : World) (hl : Sl w v 1 (l.map bcell)) (hlen : l.length ≤ 1000000) (hb : isB l) (hc : Ca w N gc0 c ps) :
    Calls Tryz.prog 56 #[.pointer (some ⟨gc0, 0, none⟩), .int .u8 kind, v, .int .u8 ver] w (TakeQ (takeEP (ps.map RR.r) kind l ver) (takeEE (ps.map RR.r) kind l ver) w) := by
  have HRD := Hm (fun W (h : Ext w W) => read_any v l W (hl.ext h) hlen hb)
  have HC := Hm hc
  clear hl hb hc
  have HBAD : Hid (∀ E, E ≠ 0 → takeEE (ps.map RR.r) kind l ver = E → takeEP (ps.map RR.r) kind l ver = Pt.zero) := Hm (fun E h0 hE => by unfold takeEP; rw [hE, if_neg h0])
  by_cases hk4 : kind < 4
  · have HE := Hm (show takeEE (ps.map RR.r) kind l ver = 7 from if_pos (.inl hk4))
    go_enter Tryz.func56, Tryz.ntmps56
    go_wp2
    refine bodyPost_ret (v := .tuple #[.agg #[.int .u8 0, .int .u32 0, .int .u32 0, .int .u8 0, .slice none 0 0, .slice none 0 0, .slice none 0 0, .int .u8 0, .slice none 0 0, .slice none 0 0], .int .i64 7]) (res_part (Blk.new w _ _) rfl rfl) rfl ?_
    rw [HBAD.out 7 (by decide) HE.out, HE.out]
    exact ⟨none, none, none, none, none, 0, 0, 0, 0, 0, rfl, PartHas.zero _, by exact eX⟩
  by_cases hk7 : 7 < kind
  · have HE := Hm (show takeEE (ps.map RR.r) kind l ver = 7 from if_pos (.inr hk7))
    go_enter Tryz.func56, Tryz.ntmps56
    go_wp2
    refine bodyPost_ret (v := .tuple #[.agg #[.int .u8 0, .int .u32 0, .int .u32 0, .int .u8 0, .slice none 0 0, .slice none 0 0, .slice none 0 0, .int .u8 0, .slice none 0 0, .slice none 0 0], .int .i64 7]) (res_part (Blk.new w _ _) rfl rfl) rfl ?_
    rw [HBAD.out 7 (by decide) HE.out, HE.out]
    exact ⟨none, none, none, none, none, 0, 0, 0, 0, 0, rfl, PartHas.zero _, by exact eX⟩
  have HK0 : Hid (¬ (kind < 4 ∨ 7 < kind)) := Hm (by omega)
  by_cases hv1 : ver < 1
  · have HE := Hm (show takeEE (ps.map RR.r) kind l ver = 18 from by unfold takeEE; rw [if_neg HK0.out, if_neg (by omega)])
    go_enter Tryz.func56, Tryz.ntmps56
    go_wp2
    refine bodyPost_ret (v := .tuple #[.agg #[.int .u8 0, .int .u32 0, .int .u32 0, .int .u8 0, .slice none 0 0, .slice none 0 0, .slice none 0 0, .int .u8 0, .slice none 0 0, .slice none 0 0], .int .i64 18]) (res_part (Blk.new w _ _) rfl rfl) rfl ?_
    rw [HBAD.out 18 (by decide) HE.out, HE.out]
    exact ⟨none, none, none, none, none, 0, 0, 0, 0, 0, rfl, PartHas.zero _, by exact eX⟩
  by_cases hv2 : 2 < ver
  · have HE := Hm (show takeEE (ps.map RR.r) kind l ver = 18 from by unfold takeEE; rw [if_neg HK0.out, if_neg (by omega)])
    go_enter Tryz.func56, Tryz.ntmps56
    go_wp2
    refine bodyPost_ret (v := .tuple #[.agg #[.int .u8 0, .int .u32 0, .int .u32 0, .int .u8 0, .slice none 0 0, .slice none 0 0, .slice none 0 0, .int .u8 0, .slice none 0 0, .slice none 0 0], .int .i64 18]) (res_part (Blk.new w _ _) rfl rfl) rfl ?_
    rw [HBAD.out 18 (by decide) HE.out, HE.out]
    exact ⟨none, none, none, none, none, 0, 0, 0, 0, 0, rfl, PartHas.zero _, by exact eX⟩
  have HE : Hid (takeEE (ps.map RR.r) kind l ver = endE (bodyE kind (ps.map RR.r) ver ⟨l, 0⟩).2) := Hm (by unfold takeEE; rw [if_neg HK0.out, if_pos (by omega)])
  have HP : Hid (takeEE (ps.map RR.r) kind l ver = 0 → takeEP (ps.map RR.r) kind l ver = (bodyE kind (ps.map RR.r) ver ⟨l, 0⟩).1) := Hm (fun h => by unfold takeEP; rw [if_pos h])
  have HTC := Hm (fun (Q g d : Nat) (W0 W : World) (hE : Ext W0 W) (hQ : W0.heap.size ≤ Q) (hg0 : W0.heap.size ≤ g) (hQd : Q < d) (hQg : Q < g) (h : RD W g d ⟨l, 0⟩) hP => truncate_any Q g d ⟨l, 0⟩ W0 W hE hQ hg0 hQd hQg h hP)
  have HRW := Hm (fun (Q g d : Nat) (W0 W : World) (hE : Ext W0 W) (hQ : W0.heap.size ≤ Q) (hg0 : W0.heap.size ≤ g) (hQd : Q < d) (hQg : Q < g) (h : RD W g d ⟨l, 0⟩) (hC : Ca W0 N gc0 c ps) (hk : 4 ≤ kind ∧ kind ≤ 6) hP => rows_any kind ver Q g d ⟨l, 0⟩ N gc0 c ps W0 W hk hE hQ hg0 hQd hQg h hC hP)
  have HEN := Hm (fun g d S W (h : RD W g d S) => rend_any g d S W h)
  obtain ⟨EE, hEE⟩ : ∃ E, E = takeEE (ps.map RR.r) kind l ver := ⟨_, rfl⟩
  obtain ⟨PP, hPP⟩ : ∃ E, E = takeEP (ps.map RR.r) kind l ver := ⟨_, rfl⟩
  rw [← hEE, ← hPP] at HBAD HP ⊢
  rw [← hEE] at HE
  clear hEE hPP
  go_enter Tryz.func56, Tryz.ntmps56
  go_upto_region 8 with (go_at_call 122; refine (HRD.out _ (by exact eX)).mono ?_; rintro e w1 ⟨g, rfl, hg, hr, hb1⟩; have HG := Hm hg; have HR1 := Hm hr; have HX1 := Hm hb1; clear hg hr hb1)
  obtain ⟨wA, hwA⟩ : ∃ W, W = w.alloc (.cells #[.int .u8 0, .int .u32 0, .int .u32 0, .int .u8 0, .slice none 0 0, .slice none 0 0, .slice none 0 0, .int .u8 0, .slice none 0 0, .slice none 0 0] 124) := ⟨_, rfl⟩
  have hQA : wA.heap.size = w.heap.size + 1 := by rw [hwA]; simp
  have HBA : Hid (Blk wA w.heap.size #[.int .u8 0, .int .u32 0, .int .u32 0, .int .u8 0, .slice none 0 0, .slice none 0 0, .slice none 0 0, .int .u8 0, .slice none 0 0, .slice none 0 0] 124) := Hm (by rw [hwA]; exact Blk.new w _ _)
  have HEA : Hid (Ext w wA) := Hm (by rw [hwA]; exact (Ext.refl w).alloc _)
  rw [← hwA] at HG HX1 HR1
  have HB1 : Hid (Blk w1 wA.heap.size #[.int .u8 kind, .int .u32 0, .int .u32 0, .int .u8 0, .slice none 0 0, .slice none 0 0, .slice none 0 0, .int .u8 0, .slice none 0 0, .slice none 0 0] 124) := Hm ((Blk.new wA #[.int .u8 kind, .int .u32 0, .int .u32 0, .int .u8 0, .slice none 0 0, .slice none 0 0, .slice none 0 0, .int .u8 0, .slice none 0 0, .slice none 0 0] 124).ext HX1.out)
  have HE1 : Hid (Ext wA w1) := Hm (((Ext.refl wA).alloc (.cells #[.int .u8 kind, .int .u32 0, .int .u32 0, .int .u8 0, .slice none 0 0, .slice none 0 0, .slice none 0 0, .int .u8 0, .slice none 0 0, .slice none 0 0] 124)).trans HX1.out)
  obtain ⟨D, hD⟩ : ∃ D, D = (wA.alloc (.cells #[.int .u8 kind, .int .u32 0, .int .u32 0, .int .u8 0, .slice none 0 0, .slice none 0 0, .slice none 0 0, .int .u8 0, .slice none 0 0, .slice none 0 0] 124)).heap.size := ⟨_, rfl⟩
  have hD1 : D = wA.heap.size + 1 := by rw [hD]; simp
  rw [← hD] at HG HR1
  have HQ : Hid (wA.heap.size < D ∧ wA.heap.size < g) := Hm (by have h := HG.out; omega)
  obtain ⟨Q, hQ⟩ : ∃ Q, Q = wA.heap.size := ⟨_, rfl⟩
  have hQW : w.heap.size + 1 = Q := by omega
  have HQL : Hid (wA.heap.size ≤ Q) := Hm (by omega)
  have HQW : Hid (w.heap.size < wA.heap.size) := Hm (by omega)
  have hBQ := HB1.out
  have hQQ := HQ.out
  rw [← hQ] at hBQ
  have HBQ := Hm hBQ
  have HGA : Hid (wA.heap.size ≤ g ∧ Q < D ∧ Q < g) := Hm (by omega)
  rw [hQW]
  have HCA := Hm (HC.out.ext HEA.out)
  have HTF := Hm (fun hP => HTC.out Q g D wA w1 HE1.out HQL.out HGA.out.1 HGA.out.2.1 HGA.out.2.2 HR1.out hP)
  have HRF := Hm (fun hk => HRW.out Q g D wA w1 HE1.out HQL.out HGA.out.1 HGA.out.2.1 HGA.out.2.2 HR1.out HCA.out hk HBQ.out)
  clear hwA hD hD1 hQ hQW hBQ hQQ hQA HC HRD HTC HRW HX1 HG HB1 HQ
  go_upto_if 35 with (fail)
  go_cut [] (fun wx => Hid (PartAt wA.heap.size Q (bodyE kind (ps.map RR.r) ver ⟨l, 0⟩).1 wx) ∧ Hid (RD wx g D (bodyE kind (ps.map RR.r) ver ⟨l, 0⟩).2) ∧ Hid (Ext wA wx))
  case first =>
    by_cases h7 : kind = 7
    · subst h7
      have HF := Hm (HTF.out HBQ.out)
      have HBE : Hid (bodyE 7 (ps.map RR.r) ver ⟨l, 0⟩ = truncR ⟨l, 0⟩) := Hm (if_pos rfl)
      go_wp2_with (go_at_call 123; refine HF.out.mono ?_; rintro e w2 ⟨rfl, ra, rc, hp2, hs2, hr2, he2, hf2⟩; have HF2 := Hm hf2; have HP2 := Hm hp2; have HS2 := Hm hs2; have HR2 := Hm hr2; have HE2 := Hm he2; clear hp2 hs2 hr2 he2 hf2)
      go_meet
      case rel =>
        rw [HBE.out]
        exact ⟨Hm ⟨none, 0, none, 0, ra, rc, none, 0, none, 0, HP2.out, Sl.nil0 _ _, Sl.nil0 _ _, HS2.out, Sl.nil0 _ _, Sl.nil0 _ _, Fw.none _, Fw.none _, HF2.out, Fw.none _, Fw.none _⟩, HR2, HE2⟩
    · have HF := Hm (HRF.out (by omega))
      have hk' : (kind == 7) = false := by simpa using h7
      have HBE : Hid (bodyE kind (ps.map RR.r) ver ⟨l, 0⟩ = rowsR kind (ps.map RR.r) ver ⟨l, 0⟩) := Hm (if_neg h7)
      clear h7
      go_wp2_with (go_at_call 124; refine HF.out.mono ?_; rintro e w2 ⟨rfl, hp2, hr2, he2⟩; have HP2 := Hm hp2; have HR2 := Hm hr2; have HE2 := Hm he2; clear hp2 hr2 he2)
      go_meet
      case rel => rw [HBE.out]; exact ⟨HP2, HR2, HE2⟩
  case rest =>
  obtain ⟨HP2, HR2, HE2⟩ := hcut
  obtain ⟨BE, hBE⟩ : ∃ B, B = bodyE kind (ps.map RR.r) ver ⟨l, 0⟩ := ⟨_, rfl⟩
  rw [← hBE] at HE HP HP2 HR2
  clear hBE HTF HRF HBQ HE1
  have HEX := Hm (HEN.out g D BE.2 _ HR2.out)
  rw [← HE.out] at HEX
  obtain ⟨ba, bc, aa, ac, ra, rc, ha, hc, ga, gc, hBlk, hp1, hp2, hp3, hp4, hp5, f1, f2, f3, f4, f5⟩ := HP2.out
  have HBK := Hm hBlk
  have HPH : Hid (PartHas BE.1 wc ba aa ra ha ga bc ac rc hc gc) := Hm ⟨hp1, hp2, hp3, hp4, hp5⟩
  have HFW := Hm (And.intro f1 (And.intro f2 (And.intro f3 (And.intro f4 f5))))
  have HB8 := Hm (HBA.out.ext HE2.out)
  have HEW := Hm (HEA.out.trans HE2.out)
  clear hBlk hp1 hp2 hp3 hp4 hp5 f1 f2 f3 f4 f5 HP2 HR2 HEN HE
  have gq := HBK.out.cell
  have fq := HBK.out.frozen
  have zq := HBK.out.lt
  have g8 := HB8.out.cell
  have f8 := HB8.out.frozen
  have z8 := HB8.out.lt
  go_upto_region 12 with (go_at_call 125; refine HEX.out.mono ?_; rintro e w3 ⟨rfl, rfl⟩)
  by_cases hE0 : EE = 0
  · subst hE0
    obtain rfl := HP.out rfl
    clear HP HBAD
    obtain ⟨⟨pe, phb, pha⟩, S⟩ := BE
    obtain ⟨pk, pao, pav, po, pb, pa, prs, pf⟩ := pe
    simp only at HBK HPH gq
    go_wp2
    refine bodyPost_ret (res_part (Blk.ten HB8.out) rfl rfl) rfl ?_
    have hq := HQW.out
    have hf := HFW.out
    have hh := HPH.out
    exact ⟨ba, aa, ra, ha, ga, bc, ac, rc, hc, gc, rfl, ⟨hh.1.kp Kp.ten (fun _ b o e => by have := hf.1 b o e; omega), hh.2.1.kp Kp.ten (fun _ b o e => by have := hf.2.1 b o e; omega), hh.2.2.1.kp Kp.ten (fun _ b o e => by have := hf.2.2.1 b o e; omega), hh.2.2.2.1.kp Kp.ten (fun _ b o e => by have := hf.2.2.2.1 b o e; omega), hh.2.2.2.2.kp Kp.ten (fun _ b o e => by have := hf.2.2.2.2 b o e; omega)⟩, HEW.out.ten (by omega)⟩
  · have hne : (EE != 0) = true := by simpa using hE0
    have HPZ := Hm (HBAD.out EE hE0 rfl)
    clear hE0 HP HBAD gq fq zq
    go_wp2
    refine bodyPost_ret (res_part (Blk.ten HB8.out) rfl rfl) rfl ?_
    rw [HPZ.out]
    exact ⟨none, none, none, none, none, 0, 0, 0, 0, 0, rfl, PartHas.zero _, HEW.out.ten (by omega)⟩
open Go.RowKit Go.Lib
theorem Tryz.infoHoleS : (Tryz.prog.info? 271).map (fun i => (i.zero, i.size, i.bytes)) = some (some (.agg #[.int .i64 0, .int .i64 0]), 2, 16) := by kernel_rfl
theorem Tryz.infoIntS : (Tryz.prog.info? 3).map (fun i => (i.zero, i.size, i.bytes)) = some (some (.int .i64 0), 1, 8) := by kernel_rfl
theorem wpList_append_run {P : Program} {w : World} {ops : Array Oper} {rest : List Oper} {o : Oper} {a : Act} {Q : Exit → Act → World → Prop} (hgd : o.guard = none) (s x : Operand) (t tx : TypeId)
    (ho : o.op = .call { callee := .builtin .append, args := #[s, x], argTypes := #[t, tx] }) (v u v' : Value) (w' : World) (hs : a.eval s = v) (hx : a.eval x = u) (hrun : (Builtin.append_ #[t, tx] o.type #[v, u]).run P w = .ok v' w')
    (h : wpList P ops Q rest (a.put o.dst v') w') : wpList P ops Q (o :: rest) a w := by
  refine wpList_plain hgd fun K hK => ?_
  unfold Oper.wp execOp
  simp only [ho, resolve, invoke, builtin, Sem.run_bind, Sem.run_pure, Result.andThen_ok, List.map_toArray, List.map_cons, List.map_nil, hs, hx, hrun]
  exact hK _ _ h
theorem grow0_any (n : Nat) (w : World) (hn : n ≤ 1000) :
    Calls Tryz.prog 262 #[.slice none 0 0, .int .i64 n] w fun e w' => ∃ v', e = .returned v' ∧ w'.ownsRow w.heap.size 271 2 v' 0 [] ∧ Ext w w' := by
  obtain ⟨i0, hi, hz0, hz1, hz2⟩ := info_parts Tryz.infoHoleS
  by_cases h0 : n = 0
  · subst h0
    go_enter Tryz.func262, Tryz.ntmps262
    go_wp2
    go_ret
    exact ⟨_, rfl, World.ownsRow_nil _ _ _ _, Ext.refl _⟩
  · have h1 : ¬ ((n : Int) < 0) := by omega
    have h4 : 0 < (n : Int) := by omega
    have hold : (Builtin.firstCells i0.size 0 (.slice none 0 0)).run Tryz.prog w.drew = .ok ([] : List Value).toArray w.drew := run_firstCells_none w.drew i0.size 0 0 0
    have hrz := fun ty => Lib.run_append_grow_zeros (P := Tryz.prog) w 122 3 ty 271 i0 _ .i64 .i64 Tryz.underlying122 Tryz.underlying3 hi hz0 none 0 0 [] hold n (by omega) (by rw [hz1]; decide) (by omega) (by omega) (by rw [hz2]; omega) (growslice_fits (by omega) (by rw [hz2]; omega))
    obtain ⟨G, hG⟩ : ∃ G, G = grownCap w (0 + n) 0 271 := ⟨_, rfl⟩
    have hG1 : n ≤ G := by rw [hG, Nat.zero_add]; exact grownCap_ge w _ _ _
    have hG2 : G ≤ maxLen := by rw [hG]; exact grownCap_le_maxLen w _ _ _ (by unfold maxLen; omega)
    rw [← hG] at hrz
    simp only [Nat.zero_add] at hrz
    have HRZ := Hm hrz
    clear hrz hold hG
    go_enter Tryz.func262, Tryz.ntmps262
    go_wp2_with (at_builtin; refine wpList_append_run rfl _ _ 122 3 rfl (.slice none 0 0) (.int .i64 n) _ _ rfl rfl (HRZ.out _) ?_)
    go_ret
    refine ⟨_, rfl, ⟨by simp, .inr ⟨w.heap.size, G, _, rfl, Nat.le_refl _, Blk.new w.drew _ 271, Nat.zero_le _, hG2, ?_, by simp⟩⟩, by exact eX⟩
    simp [size_zeroCells]
    omega
def nsK (n1 n2 : Nat) (k : Nat) : Nat := if k = 0 then 0 else if k = 1 then n1 else n1 + n2
def twoK {α : Type} (l1 l2 : List α) (k : Nat) : List α := if k = 0 then [] else if k = 1 then l1 else l1 ++ l2
theorem ho_len2 {l : List Ho} : ∀ xs ∈ l.map Ho.cells, xs.length = 2 := by intro xs hxs; simp at hxs; obtain ⟨a, _, rfl⟩ := hxs; rfl
theorem ho_one {l : List Ho} : ∀ y ∈ (l.map Ho.cells).flatten, y.oneCell' = true := by
  intro y hy
  simp only [List.mem_flatten, List.mem_map] at hy
  obtain ⟨m, ⟨s, -, rfl⟩, hy⟩ := hy
  simp [Ho.cells] at hy
  rcases hy with rfl | rfl <;> rfl
theorem concat_any (B : Nat) (a1 a2 : Option Addr) (c1 c2 : Nat) (l1 l2 : List Ho) (w : World) (hB : Blk w B #[.slice a1 l1.length c1, .slice a2 l2.length c2] 122) (h1 : Sl w (.slice a1 l1.length c1) 2 (l1.map Ho.cells)) (h2 : Sl w (.slice a2 l2.length c2) 2 (l2.map Ho.cells)) (hn : l1.length + l2.length ≤ 1000) :
    Calls Tryz.prog 205 #[.slice (some ⟨B, 0, none⟩) 2 2] w fun e w' => ∃ a' c', e = .returned (.slice a' (l1 ++ l2).length c') ∧ Sl w' (.slice a' (l1 ++ l2).length c') 2 ((l1 ++ l2).map Ho.cells) ∧ Ext w w' := by
  obtain ⟨i0, hi, hz0, hz1, hz2⟩ := info_parts Tryz.infoHoleS
  have HB := Hm hB
  have H1 := Hm h1
  have H2 := Hm h2
  have HN := Hm hn
  have HG := Hm (fun n W hn => grow0_any n W hn)
  clear hB h1 h2 hn
  obtain ⟨n1, hn1⟩ : ∃ n, n = l1.length := ⟨_, rfl⟩
  obtain ⟨n2, hn2⟩ : ∃ n, n = l2.length := ⟨_, rfl⟩
  rw [← hn1] at HB H1 HN
  rw [← hn2] at HB H2 HN
  have HL := Hm (And.intro hn1 hn2)
  clear hn1 hn2
  have gB := HB.out.cell
  have zB := HB.out.lt
  go_enter Tryz.func205, Tryz.ntmps205
  go_wp2
  go_loopg [3, 11, 5] 2 (fun z s i u wr => ∃ k : Nat, z + k = 2 ∧ i = .int .i64 k ∧ s = .int .i64 (nsK n1 n2 k) ∧ Hid (Ext w wr))
  case atStart => exact ⟨0, rfl, rfl, rfl, Hm (Ext.refl _)⟩
  case round =>
    obtain ⟨k, hzk, rfl, hs, hE⟩ := hrel
    have gw : ∀ o, wr.cell? ⟨B, o, none⟩ = (#[.slice a1 n1 c1, .slice a2 n2 c2] : Array Value)[o]? := (HB.out.ext hE.out).cell
    have zw := (HB.out.ext hE.out).lt
    have hn1 : (n1 : Int) ≤ 1000 := by have := HN.out; omega
    have hn2 : (n2 : Int) ≤ 1000 := by have := HN.out; omega
    have hk : k = 0 ∨ k = 1 ∨ k = 2 := by omega
    rcases hk with rfl | rfl | rfl
    · rw [show nsK n1 n2 0 = 0 from rfl] at hs; subst hs
      have hp1 : 0 ≤ (n1 : Int) := by omega
      go_wp2
      go_roundg 1
      case measure => omega
      case rel => exact ⟨1, rfl, by go_num, by rw [show nsK n1 n2 1 = n1 from rfl], hE⟩
    · rw [show nsK n1 n2 1 = n1 from rfl] at hs; subst hs
      have hp1 : 0 ≤ (n1 : Int) + (n2 : Int) := by omega
      go_wp2
      go_roundg 0
      case measure => omega
      case rel => exact ⟨2, rfl, by go_num, by rw [show nsK n1 n2 2 = n1 + n2 from rfl, Int.natCast_add], hE⟩
    · rw [show nsK n1 n2 2 = n1 + n2 from rfl, Int.natCast_add] at hs; subst hs
      have HGX := Hm (fun W => (show Calls Tryz.prog 262 #[.slice none 0 0, .int .i64 ((n1 : Int) + (n2 : Int))] W fun e w' => ∃ v', e = .returned v' ∧ w'.ownsRow W.heap.size 271 2 v' 0 [] ∧ Ext W w' from by
        have h := HG.out (n1 + n2) W HN.out
        rw [Int.natCast_add] at h
        exact h))
      clear gw zw
      go_upto_region 11 with (go_at_call 262; refine (HGX.out _).mono ?_; rintro e w6 ⟨v6, rfl, ho6, hb6⟩; have HO6 := Hm ho6; have HE6 := Hm (hE.out.trans hb6); have HZ6 := Hm (And.intro hE.out.size hb6.size); clear ho6 hb6)
      clear hE HGX HG
      have HO7 : Hid (w6.ownsRow w.heap.size 271 2 v6 (nsK n1 n2 0) ((twoK l1 l2 0).map Ho.cells).flatten) := Hm (owns_base HO6.out HZ6.out.1)
      clear HO6 HZ6
      go_loopg [6, 27, 8] 2 (fun z v i u wr => ∃ k : Nat, z + k = 2 ∧ i = .int .i64 k ∧ Hid (wr.ownsRow w.heap.size 271 2 v (nsK n1 n2 k) ((twoK l1 l2 k).map Ho.cells).flatten) ∧ Hid (Ext w wr))
      case atStart => exact ⟨0, rfl, rfl, HO7, HE6⟩
      case round =>
        obtain ⟨k, hzk, rfl, hO, hE⟩ := hrel
        have gw : ∀ o, wr.cell? ⟨B, o, none⟩ = (#[.slice a1 n1 c1, .slice a2 n2 c2] : Array Value)[o]? := (HB.out.ext hE.out).cell
        have zw := (HB.out.ext hE.out).lt
        have hk : k = 0 ∨ k = 1 ∨ k = 2 := by omega
        rcases hk with rfl | rfl | rfl
        · go_wp2_with (at_builtin; refine wpList_append_sl rfl _ _ 122 rfl w.heap.size 271 i0 _ 2 16 Tryz.underlying122 hi hz0 hz1 hz2 rfl (by decide) _ (nsK n1 n2 0) _ rfl hO.out (.slice a1 n1 c1) (l1.map Ho.cells) rfl (H1.out.ext hE.out) ho_len2 ho_one ?c1 ?c2 ?c3 ?_)
          case c1 => have := HN.out; have := HL.out; rw [List.length_map]; unfold nsK maxLen; simp; omega
          case c2 => have := HN.out; have := HL.out; rw [List.length_map]; unfold nsK; simp; omega
          case c3 => exact hE.out.size
          intro v7 w7 ho7 hg7 _
          have HO8 : Hid (w7.ownsRow w.heap.size 271 2 v7 (nsK n1 n2 1) ((twoK l1 l2 1).map Ho.cells).flatten) := Hm (by
            have h := ho7
            rw [show nsK n1 n2 0 = 0 from rfl, show twoK l1 l2 0 = [] from rfl] at h
            rw [show nsK n1 n2 1 = n1 from rfl, show twoK l1 l2 1 = l1 from rfl, HL.out.1]
            simpa using h)
          have HE8 : Hid (Ext w w7) := Hm (Ext.grown hE.out hO.out hg7)
          clear ho7 hg7 gw zw
          go_wp2
          go_roundg 1
          case measure => omega
          case rel => exact ⟨1, rfl, by go_num, HO8, HE8⟩
        · go_wp2_with (at_builtin; refine wpList_append_sl rfl _ _ 122 rfl w.heap.size 271 i0 _ 2 16 Tryz.underlying122 hi hz0 hz1 hz2 rfl (by decide) _ (nsK n1 n2 1) _ rfl hO.out (.slice a2 n2 c2) (l2.map Ho.cells) rfl (H2.out.ext hE.out) ho_len2 ho_one ?c1 ?c2 ?c3 ?_)
          case c1 => have := HN.out; have := HL.out; rw [List.length_map]; unfold nsK maxLen; simp; omega
          case c2 => have := HN.out; have := HL.out; rw [List.length_map]; unfold nsK; simp; omega
          case c3 => exact hE.out.size
          intro v7 w7 ho7 hg7 _
          have HO8 : Hid (w7.ownsRow w.heap.size 271 2 v7 (nsK n1 n2 2) ((twoK l1 l2 2).map Ho.cells).flatten) := Hm (by
            have h := ho7
            rw [show nsK n1 n2 1 = n1 from rfl, show twoK l1 l2 1 = l1 from rfl] at h
            rw [show nsK n1 n2 2 = n1 + n2 from rfl, show twoK l1 l2 2 = l1 ++ l2 from rfl, List.map_append, List.flatten_append]
            first | exact h | (rw [HL.out.2]; simpa using h))
          have HE8 : Hid (Ext w w7) := Hm (Ext.grown hE.out hO.out hg7)
          clear ho7 hg7 gw zw
          go_wp2
          go_roundg 0
          case measure => omega
          case rel => exact ⟨2, rfl, by go_num, HO8, HE8⟩
        · have HO9 : Hid (wr.ownsRow w.heap.size 271 2 u6 (l1 ++ l2).length ((l1 ++ l2).map Ho.cells).flatten) := Hm (by
            have h := hO.out
            rw [show nsK n1 n2 2 = n1 + n2 from rfl, show twoK l1 l2 2 = l1 ++ l2 from rfl] at h
            rw [List.length_append, ← HL.out.1, ← HL.out.2]
            exact h)
          clear hO gw zw
          obtain ⟨L, hL⟩ : ∃ L, L = l1 ++ l2 := ⟨_, rfl⟩
          rw [← hL] at HO9
          have HLL := Hm hL
          clear hL
          obtain ⟨a9, c9, rfl⟩ := owns_shape HO9.out
          go_wp2
          go_ret
          have hh := HLL.out
          subst hh
          exact ⟨a9, c9, rfl, Sl.of_owns (base := w.heap.size) (e := 271) (by rw [List.length_map]; exact HO9.out) ho_len2, hE.out⟩
def szL (l : List Ho) : List Int := l.map Ho.n
def icell (x : Int) : List Value := [.int .i64 x]
theorem icell_len {l : List Int} : ∀ xs ∈ l.map icell, xs.length = 1 := by intro xs hxs; simp at hxs; obtain ⟨a, _, rfl⟩ := hxs; rfl
theorem szL_snoc (l : List Ho) (k : Nat) (hk : k < l.length) : szL (l.take (k + 1)) = szL (l.take k) ++ [l[k].n] := by unfold szL; rw [List.take_succ_eq_append_getElem hk, List.map_append]; rfl
theorem sizes_any (p : Pt) (ba aa ra ha ga : Option Addr) (bc ac rc hc gc : Nat) (w : World) (h : PartHas p w ba aa ra ha ga bc ac rc hc gc) (hn : p.hb.length + p.ha.length ≤ 1000) :
    Calls Tryz.prog 127 #[.agg #[.int .u8 p.e.kind, .int .u32 p.e.ao, .int .u32 p.e.av, .int .u8 p.e.old, .slice ba p.e.b.length bc, .slice aa p.e.a.length ac, .slice ra p.e.rs.length rc, .int .u8 p.e.fl, .slice ha p.hb.length hc, .slice ga p.ha.length gc]] w fun e w' => ∃ a' c', e = .returned (.slice a' (sizesP p).length c') ∧ Sl w' (.slice a' (sizesP p).length c') 1 ((sizesP p).map icell) ∧ Ext w w' := by
  obtain ⟨i0, hi, hz0, hz1, hz2⟩ := info_parts Tryz.infoIntS
  obtain ⟨⟨kind, ao, av, old, b, a, rs, fl⟩, hb, hg⟩ := p
  have hh1 := h.2.2.2.1
  have hh2 := h.2.2.2.2
  clear h
  simp only at hh1 hh2 hn ⊢
  have H1 := Hm hh1
  have H2 := Hm hh2
  have HN := Hm hn
  have HSP : Hid (sizesP ⟨⟨kind, ao, av, old, b, a, rs, fl⟩, hb, hg⟩ = szL (hb ++ hg)) := Hm (by unfold sizesP szL; rw [List.map_append])
  rw [HSP.out]
  have HCC := Hm (concat_any (w.heap.size + 1) ha ga hc gc hb hg ((w.alloc (.cells #[.int .u8 kind, .int .u32 ao, .int .u32 av, .int .u8 old, .slice ba b.length bc, .slice aa a.length ac, .slice ra rs.length rc, .int .u8 fl, .slice ha hb.length hc, .slice ga hg.length gc] 124)).alloc (.cells #[.slice ha hb.length hc, .slice ga hg.length gc] 122)) (Blk.new' (w := w.alloc (.cells #[.int .u8 kind, .int .u32 ao, .int .u32 av, .int .u8 old, .slice ba b.length bc, .slice aa a.length ac, .slice ra rs.length rc, .int .u8 fl, .slice ha hb.length hc, .slice ga hg.length gc] 124)) _ _ (by simp)) (hh1.ext (((Ext.refl w).alloc _).alloc _)) (hh2.ext (((Ext.refl w).alloc _).alloc _)) hn)
  obtain ⟨L, hL⟩ : ∃ L, L = hb ++ hg := ⟨_, rfl⟩
  rw [← hL] at HCC ⊢
  have HLL : Hid (L.length ≤ 1000) := Hm (by rw [hL, List.length_append]; exact hn)
  clear hh1 hh2 hn hL HSP
  go_enter Tryz.func127, Tryz.ntmps127
  go_upto_region 3 with (go_at_call 205; refine HCC.out.mono ?_; rintro e w2 ⟨a2, c2, rfl, hs2, hb2⟩; have HS2 := Hm hs2; have HE2 := Hm (show Ext w w2 from by exact eX); clear hs2 hb2)
  clear HCC H1 H2 HN
  go_loopg [3, 13, 5] L.length (fun z v i q wr => ∃ k : Nat, z + k = L.length ∧ i = .int .i64 k ∧ Hid (wr.ownsRow w2.heap.size 3 1 v (szL (L.take k)).length ((szL (L.take k)).map icell).flatten) ∧ Hid (Ext w2 wr))
  case atStart => exact ⟨0, by omega, rfl, Hm (World.ownsRow_nil _ _ _ _), Hm (Ext.refl _)⟩
  case round =>
    obtain ⟨k, hzk, rfl, hO, hE⟩ := hrel
    by_cases hlt : k < L.length
    · obtain ⟨b1, o1, rfl, hb1, hx1⟩ := HS2.out.at_ (i := k) (by simpa using hlt)
      obtain ⟨f0, f1⟩ := Ho.at_ hlt hx1 hb1 hE.out
      have hbw : b1 < wr.heap.size := Nat.lt_of_lt_of_le hb1 hE.out.size
      have HTK := Hm (szL_snoc L k hlt)
      obtain ⟨r, hre⟩ : ∃ r, r = L[k] := ⟨_, rfl⟩
      rw [← hre] at f0 f1 HTK
      have HLT := Hm hlt
      have HLK : Hid ((szL (L.take k)).length ≤ 1000) := Hm (by unfold szL; rw [List.length_map, List.length_take]; have := HLL.out; omega)
      have hd1 : decide (L.length ≤ k) = false := decide_eq_false (by omega)
      have hd2 : decide ((L.length : Int) ≤ (k : Int)) = false := decide_eq_false (by omega)
      clear hre hx1 hb1
      obtain ⟨wz, hwz⟩ : ∃ W, W = (wr.alloc (.cells #[.int .i64 r.c, .int .i64 r.n] 271)).alloc (.cells #[.int .i64 r.n] 3) := ⟨_, rfl⟩
      have HSN : Hid (Sl ((wr.alloc (.cells #[.int .i64 r.c, .int .i64 r.n] 271)).alloc (.cells #[.int .i64 r.n] 3)) (.slice (some ⟨wr.heap.size + 1, 0, none⟩) 1 1) 1 ([r.n].map icell)) := Hm (by
        have h := Sl.new (wr.alloc (.cells #[.int .i64 r.c, .int .i64 r.n] 271)) #[.int .i64 r.n] 3 1 1 1 ([r.n].map icell) rfl icell_len rfl
        simpa using h)
      clear hwz wz
      go_wp2_with (at_builtin; refine wpList_append_sl rfl _ _ 144 rfl w2.heap.size 3 i0 _ 1 8 Tryz.underlying144 hi hz0 hz1 hz2 rfl (by decide) _ (szL (L.take k)).length _ rfl (owns_ext hO.out (((Ext.refl wr).alloc _).alloc _)) _ ([r.n].map icell) rfl HSN.out icell_len ?c0 ?c1 ?c2 ?c3 ?_)
      case c0 => intro y hy; simp [icell] at hy; subst hy; rfl
      case c1 => have := HLK.out; unfold maxLen; simp; omega
      case c2 => have := HLK.out; simp; omega
      case c3 => have := hE.out.size; simp only [World.size_alloc]; omega
      intro v7 w7 ho7 hg7 _
      have HO8 : Hid (w7.ownsRow w2.heap.size 3 1 v7 (szL (L.take (k + 1))).length ((szL (L.take (k + 1))).map icell).flatten) := Hm (by
        rw [HTK.out, List.map_append, List.flatten_append, List.length_append]
        simpa using ho7)
      have HE8 : Hid (Ext w2 w7) := Hm (Ext.grown (hE.out.trans (((Ext.refl wr).alloc _).alloc _)) (owns_ext hO.out (((Ext.refl wr).alloc _).alloc _)) hg7)
      clear ho7 hg7
      go_wp2
      go_roundg (L.length - (k + 1))
      case measure => have := HLT.out; omega
      case rel => exact ⟨k + 1, Nat.sub_add_cancel HLT.out, by (have h1 : L.length ≤ 1000 := HLL.out; have h2 : k < L.length := HLT.out; have h3 : wrap64 ((k : Int) + 1) = ((k + 1 : Nat) : Int) := (by unfold wrap64; omega); rw [h3]), HO8, HE8⟩
    · obtain rfl : k = L.length := by omega
      rw [List.take_length] at hO
      obtain ⟨a9, c9, rfl⟩ := owns_shape hO.out
      go_wp2
      go_ret
      exact ⟨a9, c9, rfl, Sl.of_owns (base := w2.heap.size) (e := 3) (by rw [List.length_map]; exact hO.out) icell_len, HE2.out.trans hE.out⟩
end Go.Proofs.YtjnafppkbhldlaaGreat
namespace Go.Proofs.YtjnafppkbhldlaaGreat
open Go.RowKit
def pcN (x : Int) : Nat := if 0 < x then (x.toNat - 1) / 256 + 1 else 0
def cntL (l : List Int) : Nat := (l.map pcN).sum
theorem cntL_snoc (l : List Int) (x : Int) : cntL (l ++ [x]) = cntL l + pcN x := by unfold cntL; simp
theorem cntL_take (l : List Int) (k : Nat) (hk : k < l.length) : cntL (l.take (k + 1)) = cntL (l.take k) + pcN l[k] := by rw [List.take_succ_eq_append_getElem hk, cntL_snoc]
theorem cntL_le {l : List Int} (h : ∀ x ∈ l, x ≤ 1000000) : cntL l ≤ l.length * 1000000 := by
  induction l with
  | nil => exact Nat.le_refl _
  | cons x l ih =>
    have h1 := ih (fun y hy => h y (List.mem_cons_of_mem _ hy))
    have h2 := h x (by simp)
    have e : cntL (x :: l) = pcN x + cntL l := by unfold cntL; simp
    have h3 : pcN x ≤ 1000000 := by unfold pcN; split <;> omega
    rw [e, List.length_cons]; omega
theorem int_at {w wr : World} {b o : Nat} {l : List Int} {k : Nat} (hk : k < l.length) (hc : ∀ j, j < 1 → w.cell? ⟨b, o + k * 1 + j, none⟩ = ((l.map icell).getD k [])[j]?) (hb : b < w.heap.size) (hE : Ext w wr) :
    wr.cell? ⟨b, o + k, none⟩ = some (.int .i64 l[k]) := by
  rw [getD_map icell l hk] at hc
  have h := hc 0 (by omega)
  rw [Nat.mul_one, Nat.add_zero] at h
  exact (hE.cells.1 b _ hb).trans h
theorem wrap64_id {x : Int} (h : -9223372036854775808 ≤ x ∧ x < 9223372036854775808) : wrap64 x = x := by unfold wrap64; omega
theorem cnt_step (C m : Nat) (hC : C ≤ 1000000000) (hm : m ≤ 1000000) : wrap64 ((C : Int) + wrap64 (wrap64 ((wrap64 (m : Int)).tdiv 256) + 1)) = ((C + (m / 256 + 1) : Nat) : Int) := by
  rw [wrap64_id (x := (m : Int)) (by omega), show Int.tdiv (m : Int) 256 = ((m / 256 : Nat) : Int) from by rw [show (256 : Int) = ((256 : Nat) : Int) from rfl, Int.ofNat_tdiv]]
  have h1 : m / 256 ≤ 1000000 := by omega
  rw [wrap64_id (x := ((m / 256 : Nat) : Int)) (by omega), wrap64_id (x := ((m / 256 : Nat) : Int) + 1) (by omega), wrap64_id (by omega)]
  omega
theorem count_any (l : List Int) (a : Option Addr) (cap : Nat) (w : World) (hl : Sl w (.slice a l.length cap) 1 (l.map icell)) (hn : l.length ≤ 1000) (hb : ∀ x ∈ l, -1000000 ≤ x ∧ x ≤ 1000000) :
    Calls Tryz.prog 139 #[.slice a l.length cap] w fun e w' => e = .returned (.int .i64 (cntL l)) ∧ Ext w w' := by
  have HL := Hm hl
  have HN := Hm hn
  have HB := Hm hb
  have HC := Hm (fun k => cntL_le (l := l.take k) (fun x hx => (hb x (List.mem_of_mem_take hx)).2))
  clear hl hn hb
  go_enter Tryz.func139, Tryz.ntmps139
  go_wp2
  go_loopg [3, 8, 5] l.length (fun z s i q wr => ∃ k : Nat, z + k = l.length ∧ i = .int .i64 k ∧ s = .int .i64 (cntL (l.take k)) ∧ Hid (Ext w wr))
  case atStart => exact ⟨0, by omega, rfl, rfl, Hm (Ext.refl _)⟩
  case round =>
    obtain ⟨k, hzk, rfl, rfl, hE⟩ := hrel
    by_cases hlt : k < l.length
    · obtain ⟨b1, o1, rfl, hb1, hx1⟩ := HL.out.at_ (i := k) (by simpa using hlt)
      have f0 := int_at hlt hx1 hb1 hE.out
      have hbw : b1 < wr.heap.size := Nat.lt_of_lt_of_le hb1 hE.out.size
      have HTK := Hm (cntL_take l k hlt)
      have HBX := Hm (HB.out _ (List.getElem_mem hlt))
      obtain ⟨x, hx⟩ : ∃ x, x = l[k] := ⟨_, rfl⟩
      rw [← hx] at f0 HTK HBX
      obtain ⟨C, hC⟩ : ∃ C, C = cntL (l.take k) := ⟨_, rfl⟩
      have HCB : Hid (C ≤ 1000000000) := Hm (by rw [hC]; have h1 := HC.out k; have h2 := HN.out; rw [List.length_take] at h1; omega)
      rw [← hC] at HTK ⊢
      have HLT := Hm hlt
      have hk63 : (k : Int) ≤ 1000 := by have := HN.out; omega
      have hkl : (k : Int) < (l.length : Int) := by omega
      have hC63 : (C : Int) ≤ 1000000000 := by have := HCB.out; omega
      clear hx hx1 hb1 hC
      by_cases h0 : 0 < x
      · obtain ⟨m, hm⟩ : ∃ m : Nat, x = (m : Int) + 1 := ⟨(x - 1).toNat, by omega⟩
        have HM : Hid (pcN x = m / 256 + 1 ∧ m ≤ 1000000) := Hm (by
          have := HBX.out
          refine ⟨?_, by omega⟩
          unfold pcN; rw [if_pos h0, hm]
          congr 2)
        subst hm
        go_wp2
        go_roundg (l.length - (k + 1))
        case measure => have := HLT.out; omega
        case rel => exact ⟨k + 1, Nat.sub_add_cancel HLT.out, by go_num, by rw [HTK.out, HM.out.1, cnt_step C m HCB.out HM.out.2], hE⟩
      · go_wp2
        go_roundg (l.length - (k + 1))
        case measure => have := HLT.out; omega
        case rel => exact ⟨k + 1, Nat.sub_add_cancel HLT.out, by go_num, by rw [HTK.out]; unfold pcN; rw [if_neg (by omega), Nat.add_zero], hE⟩
    · obtain rfl : k = l.length := by omega
      go_wp2
      go_ret
      rw [List.take_length]
      exact ⟨rfl, hE.out⟩
theorem pcount_any (p : Pt) (ba aa ra ha ga : Option Addr) (bc ac rc hc gc : Nat) (w : World) (h : PartHas p w ba aa ra ha ga bc ac rc hc gc) (hn : p.hb.length + p.ha.length ≤ 1000) (hb : ∀ x ∈ sizesP p, -1000000 ≤ x ∧ x ≤ 1000000) :
    Calls Tryz.prog 65 #[.agg #[.int .u8 p.e.kind, .int .u32 p.e.ao, .int .u32 p.e.av, .int .u8 p.e.old, .slice ba p.e.b.length bc, .slice aa p.e.a.length ac, .slice ra p.e.rs.length rc, .int .u8 p.e.fl, .slice ha p.hb.length hc, .slice ga p.ha.length gc]] w fun e w' => e = .returned (.int .i64 (cntL (sizesP p))) ∧ Ext w w' := by
  have HSZ := Hm (fun W (h2 : Ext w W) => sizes_any p ba aa ra ha ga bc ac rc hc gc W (h.ext h2) hn)
  have HCO := Hm (fun a c W (hs : Sl W (.slice a (sizesP p).length c) 1 ((sizesP p).map icell)) => count_any (sizesP p) a c W hs (by unfold sizesP; rw [List.length_append, List.length_map, List.length_map]; exact hn) hb)
  obtain ⟨⟨kind, ao, av, old, b, a, rs, fl⟩, hb', hg⟩ := p
  obtain ⟨L, hL⟩ : ∃ L, L = sizesP ⟨⟨kind, ao, av, old, b, a, rs, fl⟩, hb', hg⟩ := ⟨_, rfl⟩
  rw [← hL] at HSZ HCO ⊢
  simp only at HSZ HCO ⊢
  clear h hn hb hL
  go_enter Tryz.func65, Tryz.ntmps65
  go_wp2_with (first
    | (go_at_call 127; refine (HSZ.out _ (by exact eX)).mono ?_; rintro e w1 ⟨a1, c1, rfl, hs1, hb1⟩; have HS1 := Hm hs1; have HE1 := Hm (((Ext.refl w).alloc _).trans hb1); clear hs1 hb1)
    | (go_at_call 139; refine (HCO.out _ _ _ HS1.out).mono ?_; rintro e w2 ⟨rfl, hb2⟩; have HE2 := Hm (HE1.out.trans hb2); clear hb2))
  go_ret
  exact ⟨rfl, HE2.out⟩
theorem pcN_nOf (x : Int) : pcN x = nOf x.toNat := by unfold pcN nOf; split <;> omega
theorem cntL_sum : ∀ l : List Int, cntL l = (lensL (l.map Int.toNat)).length
  | [] => rfl
  | x :: l => by
    have h := cntL_sum l
    have e : cntL (x :: l) = pcN x + cntL l := by unfold cntL; simp
    rw [e, List.map_cons, lensL_cons, List.length_append, lens1_len, h, pcN_nOf]
theorem recE_ver {e : Ev} {l : List Rl} {ver : Int} (h : recE e l ver = 0) : (ver = 1 ∨ ver = 2) ∧ evE e l = 0 := by
  unfold recE at h
  split at h
  · rename_i hv; exact ⟨hv, h⟩
  · cases h
theorem evE_kind {e : Ev} {l : List Rl} (h : evE e l = 0) : 4 ≤ e.kind ∧ e.kind ≤ 7 := by
  unfold evE at h
  split at h
  · cases h
  · omega
theorem evE_rows {e : Ev} {l : List Rl} (h : evE e l = 0) (h0 : 0 ≤ e.old) : (e.b = [] ∨ ∃ r, fitsE e.b r = 0) ∧ (e.a = [] ∨ ∃ r, fitsE e.a r = 0) ∧ (e.kind = 7 → e.b = [] ∧ e.a = []) := by
  by_cases h7 : e.kind = 7
  · obtain ⟨-, -, -, -, -, hb, ha, -⟩ := ev_trunc h h7
    exact ⟨.inl hb, .inl ha, fun _ => ⟨hb, ha⟩⟩
  · obtain ⟨r, -, hok⟩ := ev_ok h h7 h0
    refine ⟨?_, ?_, fun h => absurd h h7⟩
    · by_cases ho : e.old = 0
      · exact .inl (hok.b0 ho)
      · exact .inr ⟨r, hok.b ho⟩
    · by_cases ho : e.kind = 6
      · exact .inl (hok.a6 ho)
      · exact .inr ⟨r, hok.a ho⟩
structure RecBack (e : Ev) (l : List Rl) (ver : Int) : Prop where
  te : takeEE l e.kind (recB e l ver) ver = 0
  tp : takeEP l e.kind (recB e l ver) ver = e.part
  fe : fillPE e.part (recT e l ver) = 0
  fv : fillPV e.part (recT e l ver) = e
  cn : cntL (sizesP e.part) = (recT e l ver).length
theorem RecBack.of {e : Ev} {l : List Rl} {ver : Int} (h : recE e l ver = 0) (hw : e.wk) (ht : e.tw) : RecBack e l ver := by
  obtain ⟨hv, he⟩ := recE_ver h
  have hk := evE_kind he
  have hB : recB e l ver = recPay e l ver := by unfold recB; rw [if_pos h]
  have hT : recT e l ver = recTx e := by unfold recT; rw [if_pos h]
  have h1 := body_put he hk hv hw.old ht.b ht.a ht.r ht.at_
  obtain ⟨r1, r2, r3⟩ := evE_rows he hw.old
  obtain ⟨f1, f2, f3⟩ := part_fill r1 r2 r3 ht.b ht.a
  have hE : takeEE l e.kind (recPay e l ver) ver = 0 := by
    unfold takeEE
    rw [if_neg (by omega), if_pos hv, h1]
    rfl
  refine ⟨by rw [hB]; exact hE, by rw [hB]; unfold takeEP; rw [if_pos hE, h1], by rw [hT]; exact f1, by rw [hT]; exact f2, ?_⟩
  rw [hT, cntL_sum, f3, List.length_map]
theorem rec_inv {l : List Rl} {kind ver : Int} {b : List Int} {ps : List ByteArray} (hb : isB b) (h : takeEE l kind b ver = 0) (hf : fillPE (takeEP l kind b ver) ps = 0) (he : evE (fillPV (takeEP l kind b ver) ps) l = 0) :
    recE (fillPV (takeEP l kind b ver) ps) l ver = 0 ∧ recB (fillPV (takeEP l kind b ver) ps) l ver = b ∧ recT (fillPV (takeEP l kind b ver) ps) l ver = ps := by
  obtain ⟨h1, h2, h3, -, -⟩ := part_inv hb h hf
  have h0 : recE (fillPV (takeEP l kind b ver) ps) l ver = 0 := by unfold recE; rw [if_pos h3]; exact he
  refine ⟨h0, ?_, ?_⟩
  · unfold recB; rw [if_pos h0, h1]
  · unfold recT; rw [if_pos h0, h2]
theorem firstC_le {kind : Int} {st : RS} : (firstC kind st).1.2 ≤ 2048 := by
  unfold firstC textK
  simp only
  repeat' split
  all_goals first | exact Nat.zero_le _ | exact largeR_le
theorem secondC_le {kind : Int} {st : RS} : (secondC kind st).1.2 ≤ 2048 := by
  unfold secondC textK
  simp only
  repeat' split
  all_goals first | exact Nat.zero_le _ | exact largeR_le
theorem takeC_le {kind ver : Int} {st : RS} : (takeC kind ver st).1.2 ≤ 2048 := by
  unfold takeC finC preC
  simp only
  repeat' split
  all_goals first | exact Nat.zero_le _ | exact firstC_le | exact secondC_le
theorem tkUp_small {nulls : List Bool} {cols : List Col} {ver : Int} {st : RS} : ∀ k, (tkUp nulls cols ver st k).1.1.length ≤ k ∧ (tkUp nulls cols ver st k).1.1.length ≤ cols.length ∧ (tkUp nulls cols ver st k).1.2.length ≤ cols.length ∧ (tkUp nulls cols ver st k).1.2.length ≤ k ∧ ∀ o ∈ (tkUp nulls cols ver st k).1.2, 0 ≤ o.n ∧ o.n ≤ 2048
  | 0 => ⟨Nat.le_refl _, Nat.zero_le _, Nat.zero_le _, Nat.le_refl _, fun o ho => by cases ho⟩
  | k + 1 => by
    obtain ⟨h1, h2, h3, h4, h5⟩ := tkUp_small (nulls := nulls) (cols := cols) (ver := ver) (st := st) k
    unfold tkUp
    split
    · rename_i hlt
      split
      · simp only [List.length_append, List.length_cons, List.length_nil]
        exact ⟨by omega, by omega, by omega, by omega, h5⟩
      · simp only [List.length_append, List.length_cons, List.length_nil]
        split
        · simp only [List.length_append, List.length_cons, List.length_nil]
          refine ⟨by omega, by omega, by omega, by omega, fun o ho => ?_⟩
          rcases List.mem_append.1 ho with ho | ho
          · exact h5 o ho
          · obtain rfl : o = _ := by simpa using ho
            have := takeC_le (kind := (cols[k]'hlt.2).ty) (ver := ver) (st := (tkUp nulls cols ver st k).2)
            simp only
            omega
        · exact ⟨by omega, by omega, by omega, by omega, h5⟩
    · exact ⟨by omega, h2, h3, by omega, h5⟩
theorem failS_bad {st : RS} {E : Int} (h : E ≠ 0) : (failS st E).e ≠ 0 := by
  unfold failS
  rw [if_pos h]
  exact giveS_e h
theorem takeT_small {r : Rl} {ver : Int} {st : RS} : (takeT r ver st).1.1.length ≤ 16 ∧ (takeT r ver st).1.2.length ≤ 16 ∧ ∀ o ∈ (takeT r ver st).1.2, 0 ≤ o.n ∧ o.n ≤ 2048 := by
  unfold takeT
  split
  · exact ⟨Nat.zero_le _, Nat.zero_le _, fun o ho => by cases ho⟩
  rename_i h1
  split
  · exact ⟨Nat.zero_le _, Nat.zero_le _, fun o ho => by cases ho⟩
  have hr : r.right = 0 := Classical.byContradiction fun q => by
    apply h1
    unfold begR
    split
    · exact failS_bad q
    · exact giveS_e (by decide)
  have hc : r.cols.length ≤ 16 := by
    unfold Rl.right at hr
    repeat' split at hr
    all_goals first | omega | cases hr | skip
  unfold finT
  split
  · exact ⟨Nat.zero_le _, Nat.zero_le _, fun o ho => by cases ho⟩
  · obtain ⟨-, h2, h3, -, h5⟩ := tkUp_small (nulls := (unmapL (bytesR (mapSize r.cols.length) (begR r ver st)).1 r.cols.length).1) (cols := r.cols) (ver := ver) (st := failS (bytesR (mapSize r.cols.length) (begR r ver st)).2 (unmapL (bytesR (mapSize r.cols.length) (begR r ver st)).1 r.cols.length).2) (unmapL (bytesR (mapSize r.cols.length) (begR r ver st)).1 r.cols.length).1.length
    exact ⟨by omega, by omega, h5⟩
structure Pt.small (p : Pt) : Prop where
  e : p.e.b.length ≤ 16 ∧ p.e.a.length ≤ 16 ∧ p.e.rs.length ≤ 8
  n : p.hb.length ≤ 16 ∧ p.ha.length ≤ 16
  hb : ∀ o ∈ p.hb, 0 ≤ o.n ∧ o.n ≤ 2048
  ha : ∀ o ∈ p.ha, 0 ≤ o.n ∧ o.n ≤ 2048
theorem Pt.small.zero : Pt.zero.small := ⟨⟨Nat.zero_le _, Nat.zero_le _, Nat.zero_le _⟩, ⟨Nat.zero_le _, Nat.zero_le _⟩, fun o ho => (by cases ho), fun o ho => (by cases ho)⟩
theorem Pt.small.ev {p : Pt} (h : p.small) : p.e.small := ⟨by have := h.e; omega, by have := h.e; omega, by have := h.e; omega⟩
theorem Pt.small.sz {p : Pt} (h : p.small) : ∀ x ∈ sizesP p, 0 ≤ x ∧ x ≤ 2048 := by
  intro x hx
  unfold sizesP at hx
  rcases List.mem_append.1 hx with hx | hx
  · obtain ⟨o, ho, rfl⟩ := List.mem_map.1 hx; exact h.hb o ho
  · obtain ⟨o, ho, rfl⟩ := List.mem_map.1 hx; exact h.ha o ho
theorem befR_small {r : Rl} {ver old : Int} {st : RS} : (befR r ver old st).1.1.length ≤ 16 ∧ (befR r ver old st).1.2.length ≤ 16 ∧ ∀ o ∈ (befR r ver old st).1.2, 0 ≤ o.n ∧ o.n ≤ 2048 := by
  unfold befR
  split
  · exact ⟨Nat.zero_le _, Nat.zero_le _, fun o ho => by cases ho⟩
  · exact takeT_small
theorem aftR_small {r : Rl} {ver kind : Int} {st : RS} : (aftR r ver kind st).1.1.length ≤ 16 ∧ (aftR r ver kind st).1.2.length ≤ 16 ∧ ∀ o ∈ (aftR r ver kind st).1.2, 0 ≤ o.n ∧ o.n ≤ 2048 := by
  unfold aftR
  split
  · exact ⟨Nat.zero_le _, Nat.zero_le _, fun o ho => by cases ho⟩
  · exact takeT_small
theorem body_small (kind : Int) (l : List Rl) (ver : Int) (st : RS) : (bodyE kind l ver st).1.small := by
  unfold bodyE
  split
  · unfold truncR
    simp only
    exact ⟨⟨Nat.zero_le _, Nat.zero_le _, by rw [refsR_len]; exact uintR_le 8⟩, ⟨Nat.zero_le _, Nat.zero_le _⟩, fun o ho => (by cases ho), fun o ho => (by cases ho)⟩
  · unfold rowsR
    split
    · first | exact ⟨⟨Nat.zero_le _, Nat.zero_le _, Nat.zero_le _⟩, ⟨Nat.zero_le _, Nat.zero_le _⟩, fun o ho => (by cases ho), fun o ho => (by cases ho)⟩ | exact ⟨⟨by simp, by simp, by simp⟩, ⟨by simp, by simp⟩, fun o ho => (by simp at ho), fun o ho => (by simp at ho)⟩
    · unfold rowR
      simp only
      exact ⟨⟨befR_small.1, aftR_small.1, Nat.zero_le _⟩, ⟨befR_small.2.1, aftR_small.2.1⟩, befR_small.2.2, aftR_small.2.2⟩
theorem takeEP_small (l : List Rl) (kind : Int) (b : List Int) (ver : Int) : (takeEP l kind b ver).small := by
  unfold takeEP
  split
  · exact body_small _ _ _ _
  · exact Pt.small.zero
open Go.Shelf
def Tryz.lays169_ren : Go.Shelf.Ren := ⟨fun | 169 => 204 | n => n, fun | 70 => 343 | 9 => 9 | 0 => 0 | 72 => 345 | 37 => 27 | 127 => 408 | 3 => 3 | 5 => 5 | n => n, fun | n => n⟩
theorem Tryz.lays169 : Go.Proofs.Lays.n169 Tryz.prog Tryz.lays169_ren := {
  mixed := by kernel_rfl
  f169 := Tryz.func204.trans (congrArg some (by kernel_rfl))
  t0 := Tryz.underlying0
  a0 := Tryz.isAgg0
  z0 := Tryz.sizeOf0
  v0 := Tryz.zeroValue0
  t3 := Tryz.underlying3
  a3 := Tryz.isAgg3
  z3 := Tryz.sizeOf3
  v3 := Tryz.zeroValue3
  t9 := Tryz.underlying9
  a9 := Tryz.isAgg9
  z9 := Tryz.sizeOf9
  v9 := Tryz.zeroValue9
  t37 := Tryz.underlying27
  a37 := Tryz.isAgg27
  z37 := Tryz.sizeOf27
  v37 := Tryz.zeroValue27
  t70 := Tryz.underlying343
  a70 := Tryz.isAgg343
  z70 := Tryz.sizeOf343
  v70 := Tryz.zeroValue343
  t72 := Tryz.underlying345
  a72 := Tryz.isAgg345
  z72 := Tryz.sizeOf345
  v72 := Tryz.zeroValue345
  t127 := Tryz.underlying408
  a127 := Tryz.isAgg408
  z127 := Tryz.sizeOf408
  v127 := Tryz.zeroValue408 }
def Tryz.lays170_ren : Go.Shelf.Ren := ⟨fun | 170 => 202 | n => n, fun | 70 => 343 | 3 => 3 | 0 => 0 | 72 => 345 | 37 => 27 | 5 => 5 | n => n, fun | n => n⟩
theorem Tryz.lays170 : Go.Proofs.Lays.n170 Tryz.prog Tryz.lays170_ren := {
  mixed := by kernel_rfl
  f170 := Tryz.func202.trans (congrArg some (by kernel_rfl))
  t0 := Tryz.underlying0
  a0 := Tryz.isAgg0
  z0 := Tryz.sizeOf0
  v0 := Tryz.zeroValue0
  t3 := Tryz.underlying3
  a3 := Tryz.isAgg3
  z3 := Tryz.sizeOf3
  v3 := Tryz.zeroValue3
  t37 := Tryz.underlying27
  a37 := Tryz.isAgg27
  z37 := Tryz.sizeOf27
  v37 := Tryz.zeroValue27
  t70 := Tryz.underlying343
  a70 := Tryz.isAgg343
  z70 := Tryz.sizeOf343
  v70 := Tryz.zeroValue343
  t72 := Tryz.underlying345
  a72 := Tryz.isAgg345
  z72 := Tryz.sizeOf345
  v72 := Tryz.zeroValue345 }
end Go.Proofs.YtjnafppkbhldlaaGreat
