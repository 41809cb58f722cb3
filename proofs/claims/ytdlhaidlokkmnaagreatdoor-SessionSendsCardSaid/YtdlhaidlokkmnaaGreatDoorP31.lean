/-
The message of a begin's body, of a commit's: the program's reader.
-/
import Derived.Defers
import Derived.Recover
import Derived.Test.YtdlhaidlokkmnaaGreatDoorP4
import Derived.Test.YtdlhaidlokkmnaaGreatDoorP30
import Derived.Test.YtdlhaidlokkmnaaGreatDoorP25
import Derived.Test.YtdlhaidlokkmnaaGreatDoorP23
set_option maxRecDepth 100000
set_option maxHeartbeats 16000000
namespace Go.Proofs.YtdlhaidlokkmnaaGreatDoor
open Go.RowKit
def bodyB : List Int := [0, 0, 0, 5, 0, 0, 0, 0, 0, 0, 0, 0]
def bodyC : List Int := [0, 0, 0, 5, 0, 0, 0, 0]
theorem bodyB_b : ∀ x ∈ bodyB, 0 ≤ x ∧ x < 256 := by decide
theorem bodyC_b : ∀ x ∈ bodyC, 0 ≤ x ∧ x < 256 := by decide
theorem wlet_B : wlet 66 = true := by decide
theorem wlet_C : wlet 67 = true := by decide
theorem msgE_B (rs : List Rl) : msgE (mlB 5 0).m rs = 0 := by
  unfold msgE
  rw [if_neg (by rw [show (mlB 5 0).m.k = 66 from rfl, wlet_B]; simp), if_neg (by rw [msgB_true.2 (show (mlB 5 0).m = (mlB 5 0).m.own from rfl)]; simp), if_pos (.inl rfl), if_neg (by rw [show (mlB 5 0).m.x = 5 from rfl]; decide)]
theorem msgE_C (rs : List Rl) : msgE (mlC 5 0).m rs = 0 := by
  unfold msgE
  rw [if_neg (by rw [show (mlC 5 0).m.k = 67 from rfl, wlet_C]; simp), if_neg (by rw [msgB_true.2 (show (mlC 5 0).m = (mlC 5 0).m.own from rfl)]; simp), if_pos (.inr rfl), if_neg (by rw [show (mlC 5 0).m.x = 5 from rfl]; decide)]
theorem res_wmsg {W : World} {b : Nat} {v0 v1 v2 v3 v4 v5 v6 v7 v8 v9 v10 v11 v12 v13 v14 v15 v16 : Value} {tm : Array Value} (h : Blk W b #[v0, v1, v2, v3, v4, v5, v6, v7, v8, v9, v10, v11, v12, v13, v14, v15, v16] 76) (ht : tm.getD 6 undef = .pointer (some ⟨b, 0, none⟩)) :
    (results Tryz.f139 tm).run Tryz.prog W = .ok (.agg #[v0, v1, v2, v3, v4, v5, v6, v7, v8, v9, v10, v11, v12, v13, v14, v15, v16]) W := by
  have c := h.cell
  have c0 := c 0
  have c1 := c 1
  have c2 := c 2
  have c3 := c 3
  have c4 := c 4
  have c5 := c 5
  have c6 := c 6
  have c7 := c 7
  have c8 := c 8
  have c9 := c 9
  have c10 := c 10
  have c11 := c 11
  have c12 := c 12
  have c13 := c 13
  have c14 := c 14
  have c15 := c 15
  have c16 := c 16
  clear c h
  simp at c0 c1 c2 c3 c4 c5 c6 c7 c8 c9 c10 c11 c12 c13 c14 c15 c16
  rw [Array.getD_eq_getD_getElem?] at ht
  simp [results, Tryz.results139, go_sem, ht, c0, c1, c2, c3, c4, c5, c6, c7, c8, c9, c10, c11, c12, c13, c14, c15, c16]
theorem Kp.setNew {S : Nat → Prop} {W0 W : World} (h : Kp S W0 W) {p : Addr} (hb : W0.heap.size ≤ p.block) (u : Value) : Kp S W0 (W.setCell p u) :=
  h.trans (Kp.set (S := fun k => k = p.block) p u rfl) (fun x hx hl => by have h2 : x = p.block := hx; exact absurd h2 (by omega))
theorem Kp.new17 {S : Nat → Prop} {W0 W : World} {b : Nat} {v0 v1 v2 v3 v4 v5 v6 v7 v8 v9 v10 v11 v12 v13 v14 v15 v16 : Value} (h : Kp S W0 W) (hb : W0.heap.size ≤ b) : Kp S W0 ((((((((((((((((((W.setCell ⟨b, 0, none⟩ v0).setCell ⟨b, 1, none⟩ v1).setCell ⟨b, 2, none⟩ v2).setCell ⟨b, 3, none⟩ v3).setCell ⟨b, 4, none⟩ v4).setCell ⟨b, 5, none⟩ v5).setCell ⟨b, 6, none⟩ v6).setCell ⟨b, 7, none⟩ v7).setCell ⟨b, 8, none⟩ v8).setCell ⟨b, 9, none⟩ v9).setCell ⟨b, 10, none⟩ v10).setCell ⟨b, 11, none⟩ v11).setCell ⟨b, 12, none⟩ v12).setCell ⟨b, 13, none⟩ v13).setCell ⟨b, 14, none⟩ v14).setCell ⟨b, 15, none⟩ v15).setCell ⟨b, 16, none⟩ v16)) := by
  repeat refine Kp.setNew ?_ hb _
  exact h
theorem Kp.setS {S : Nat → Prop} {W0 W : World} (h : Kp S W0 W) {p : Addr} (hb : S p.block) (u : Value) : Kp S W0 (W.setCell p u) := h.trans (Kp.set p u hb) (fun _ h _ => h)
theorem Kp.w17 {S : Nat → Prop} {W0 W : World} {b : Nat} {v0 v1 v2 v3 v4 v5 v6 v7 v8 v9 v10 v11 v12 v13 v14 v15 v16 : Value} (h : Kp S W0 W) (hb : S b) : Kp S W0 ((((((((((((((((((W.setCell ⟨b, 0, none⟩ v0).setCell ⟨b, 1, none⟩ v1).setCell ⟨b, 2, none⟩ v2).setCell ⟨b, 3, none⟩ v3).setCell ⟨b, 4, none⟩ v4).setCell ⟨b, 5, none⟩ v5).setCell ⟨b, 6, none⟩ v6).setCell ⟨b, 7, none⟩ v7).setCell ⟨b, 8, none⟩ v8).setCell ⟨b, 9, none⟩ v9).setCell ⟨b, 10, none⟩ v10).setCell ⟨b, 11, none⟩ v11).setCell ⟨b, 12, none⟩ v12).setCell ⟨b, 13, none⟩ v13).setCell ⟨b, 14, none⟩ v14).setCell ⟨b, 15, none⟩ v15).setCell ⟨b, 16, none⟩ v16)) := by
  repeat refine Kp.setS ?_ hb _
  exact h
theorem msgB_any (rb N g : Nat) (c : Value) (ps : List RR) (w : World) (h : RBk w rb bodyB) (_hk : Kin w) (_hc : Ca w N g c ps) (_hg : g ≠ rb) (hlow : ∀ W, Kp (fun k => k = rb) w W → Kin W ∧ Ca W N g c ps) :
    Calls Tryz.prog 139 #[.pointer (some ⟨rb, 0, none⟩), .pointer (some ⟨g, 0, none⟩), .int .u8 66] w fun e w' => e = .returned (mlB 5 0).agg ∧ Kp (fun k => k = rb) w w' := by
  have HR0 := Hm h
  have HLW := Hm hlow
  have HN1 := Hm (fun W (h : RBk W rb bodyB) => show Calls Tryz.prog 158 #[.pointer (some ⟨rb, 0, none⟩), .int .u64 4] W (fun e w' => e = .returned (.int .u64 5) ∧ RBk w' rb (bodyB.drop 4) ∧ Kp (fun k => k = rb) W w') from rnumber_any rb 4 bodyB W h (by decide) (by decide) (by decide) bodyB_b)
  have HN2 := Hm (fun W (h : RBk W rb (bodyB.drop 4)) => show Calls Tryz.prog 158 #[.pointer (some ⟨rb, 0, none⟩), .int .u64 8] W (fun e w' => e = .returned (.int .u64 0) ∧ RBk w' rb [] ∧ Kp (fun k => k = rb) W w') from rnumber_any rb 8 (bodyB.drop 4) W h (by decide) (by decide) (by decide) (fun x hx => bodyB_b x (List.mem_of_mem_drop hx)))
  have HND := Hm (fun e W => need_any e W)
  have HRG := Hm (fun W (h : Kp (fun k => k = rb) w W) => show Calls Tryz.prog 36 #[.agg #[.int .u8 66, .int .u32 5, .int .u64 0, .int .u32 0, .int .u32 0, .int .u32 0, .string ⟨#[]⟩, .int .u8 0, .slice none 0 0, .int .u8 0, .int .u32 0, .int .u32 0, .int .u8 0, .slice none 0 0, .slice none 0 0, .slice none 0 0, .int .u8 0], .pointer (some ⟨g, 0, none⟩)] W (fun e w' => e = .returned (.int .i64 0) ∧ Ext W w') from by
    have h1 := mright_any (mlB 5 0) N g c ps W (mlB_at W 5 0) (Nat.zero_le _) (Nat.zero_le _) (by decide) (fun c hc => by cases hc) Ev0_okw.sm Ev0_okw.wk (show (0 : Int) ≤ 66 by decide) (show (66 : Int) < 256 by decide) (HLW.out W h).1 (HLW.out W h).2
    rw [msgE_B] at h1
    exact h1)
  have hrb := (show rb < w.heap.size from by obtain ⟨a, c, h1, -⟩ := h; exact h1.lt)
  clear h _hk _hc hlow _hg
  go_enter Tryz.func139, Tryz.ntmps139
  go_upto_region 12 with (first
    | (go_at_call 158; refine (HN1.out _ (HR0.out.ext (by exact eX))).mono ?_; rintro e w1 ⟨rfl, hr1, hk1⟩; have HR1 := Hm hr1; have HK1 := Hm hk1; clear HN1 hr1 hk1)
    | (go_at_call 158; refine (HN2.out _ HR1.out).mono ?_; rintro e w2 ⟨rfl, hr2, hk2⟩; have HR2 := Hm hr2; have HK2 := Hm (HK1.out.trans hk2 (fun _ h _ => h)); have HX2 := Hm ((Blk.new' (w := w.alloc (.cells #[.int .u8 0, .int .u32 0, .int .u64 0, .int .u32 0, .int .u32 0, .int .u32 0, .string ⟨#[]⟩, .int .u8 0, .slice none 0 0, .int .u8 0, .int .u32 0, .int .u32 0, .int .u8 0, .slice none 0 0, .slice none 0 0, .slice none 0 0, .int .u8 0] 76)) (b := w.heap.size + 1) #[.int .u8 66, .int .u32 0, .int .u64 0, .int .u32 0, .int .u32 0, .int .u32 0, .string ⟨#[]⟩, .int .u8 0, .slice none 0 0, .int .u8 0, .int .u32 0, .int .u32 0, .int .u8 0, .slice none 0 0, .slice none 0 0, .slice none 0 0, .int .u8 0] 76 (by simp)).kp HK2.out (by omega)); have HZ2 := Hm (((Blk.new w #[.int .u8 0, .int .u32 0, .int .u64 0, .int .u32 0, .int .u32 0, .int .u32 0, .string ⟨#[]⟩, .int .u8 0, .slice none 0 0, .int .u8 0, .int .u32 0, .int .u32 0, .int .u8 0, .slice none 0 0, .slice none 0 0, .slice none 0 0, .int .u8 0] 76).alloc (.cells #[.int .u8 66, .int .u32 0, .int .u64 0, .int .u32 0, .int .u32 0, .int .u32 0, .string ⟨#[]⟩, .int .u8 0, .slice none 0 0, .int .u8 0, .int .u32 0, .int .u32 0, .int .u8 0, .slice none 0 0, .slice none 0 0, .slice none 0 0, .int .u8 0] 76)).kp HK2.out (by omega)); have g2 := HX2.out.cell; have g2f := HX2.out.frozen; have g2z := HX2.out.lt; clear HN2 hr2 hk2))
  obtain ⟨w3, hw3⟩ : ∃ W, W = (w2.setCell ⟨w.heap.size + 1, 1, none⟩ (.int .u32 5)).setCell ⟨w.heap.size + 1, 2, none⟩ (.int .u64 0) := ⟨_, rfl⟩
  have HS3 : Hid (Kp (fun k => k = w.heap.size + 1) w2 w3) := Hm (by rw [hw3]; exact (Kp.set (S := fun k => k = w.heap.size + 1) _ _ rfl).trans (Kp.set (S := fun k => k = w.heap.size + 1) _ _ rfl) (fun _ h _ => h))
  have HX3 : Hid (Blk w3 (w.heap.size + 1) #[.int .u8 66, .int .u32 5, .int .u64 0, .int .u32 0, .int .u32 0, .int .u32 0, .string ⟨#[]⟩, .int .u8 0, .slice none 0 0, .int .u8 0, .int .u32 0, .int .u32 0, .int .u8 0, .slice none 0 0, .slice none 0 0, .slice none 0 0, .int .u8 0] 76) := Hm (by
    have h := (HX2.out.set 1 (.int .u32 5)).set 2 (.int .u64 0)
    simp only [List.setIfInBounds_toArray, List.set_cons_zero, List.set_cons_succ] at h
    rw [hw3]; exact h)
  have HZ3 : Hid (Blk w3 w.heap.size #[.int .u8 0, .int .u32 0, .int .u64 0, .int .u32 0, .int .u32 0, .int .u32 0, .string ⟨#[]⟩, .int .u8 0, .slice none 0 0, .int .u8 0, .int .u32 0, .int .u32 0, .int .u8 0, .slice none 0 0, .slice none 0 0, .slice none 0 0, .int .u8 0] 76) := Hm (HZ2.out.kp HS3.out (by omega))
  have HK3 : Hid (Kp (fun k => k = rb) w w3) := Hm (((Kp.of_ext (S := fun k => k = rb) (show Ext w ((w.alloc (.cells #[.int .u8 0, .int .u32 0, .int .u64 0, .int .u32 0, .int .u32 0, .int .u32 0, .string ⟨#[]⟩, .int .u8 0, .slice none 0 0, .int .u8 0, .int .u32 0, .int .u32 0, .int .u8 0, .slice none 0 0, .slice none 0 0, .slice none 0 0, .int .u8 0] 76)).alloc (.cells #[.int .u8 66, .int .u32 0, .int .u64 0, .int .u32 0, .int .u32 0, .int .u32 0, .string ⟨#[]⟩, .int .u8 0, .slice none 0 0, .int .u8 0, .int .u32 0, .int .u32 0, .int .u8 0, .slice none 0 0, .slice none 0 0, .slice none 0 0, .int .u8 0] 76)) from ((Ext.refl w).alloc _).alloc _)).trans HK2.out (fun _ h _ => h)).trans HS3.out (fun x h hx => by have h2 : x = w.heap.size + 1 := h; exact absurd h2 (by omega)))
  obtain ⟨ra, rc, hb3, -, -⟩ := HR2.out
  have hb4 := hb3.kp HS3.out (show ¬ rb = w.heap.size + 1 by omega)
  have r3 := hb4.cell
  have r3z := hb4.lt
  rw [← hw3]
  clear hw3 HX2 HZ2 HK2 HK1 HR1 HR2 HR0 HS3 g2 g2f g2z hb3 hb4
  have g3 := HX3.out.cell
  have g3z := HX3.out.lt
  go_upto_region 13 with (go_at_call 162; refine (HND.out _ _).mono ?_; rintro e w4 ⟨rfl, rfl⟩)
  clear r3 r3z
  have HE5F := Hm (fun W (h : Ext w3 W) => show (Instr.storeAt 76 (.pointer (some ⟨w.heap.size, 0, none⟩)) (.agg #[.int .u8 66, .int .u32 5, .int .u64 0, .int .u32 0, .int .u32 0, .int .u32 0, .string ⟨#[]⟩, .int .u8 0, .slice none 0 0, .int .u8 0, .int .u32 0, .int .u32 0, .int .u8 0, .slice none 0 0, .slice none 0 0, .slice none 0 0, .int .u8 0])).run Tryz.prog W = .ok () _ from store17 (HZ3.out.ext h))
  as_aux_lemma =>
    go_wp2_with (first
      | (refine wpList_load_to rfl 76 (.tmp 7) rfl _ _ ?e1 (load17 HX3.out) ?_; (case e1 => go_simp))
      | (go_at_call 36; refine (HRG.out _ HK3.out).mono ?_; rintro e w5 ⟨rfl, hb5⟩; have HE5 := Hm hb5; clear hb5)
      | (go_at_call 162; refine (HND.out _ _).mono ?_; rintro e w6 ⟨rfl, rfl⟩)
      | (refine wpList_load_to rfl 76 (.tmp 7) rfl _ _ ?e1 (load17 (HX3.out.ext HE5.out)) ?_; (case e1 => go_simp))
      | (refine wpList_store_to rfl 76 (.tmp 6) (.tmp 60) rfl _ _ ?e1 ?e2 (HE5F.out _ HE5.out) ?_; (case e1 => go_simp); (case e2 => go_simp)))
    as_aux_lemma =>
      refine bodyPost_ret (res_wmsg (Blk.c17 (HZ3.out.ext HE5.out)) rfl) rfl ⟨rfl, Kp.new17 (HK3.out.trans (Kp.of_ext HE5.out) (fun _ h _ => h)) (Nat.le_refl _)⟩
theorem msgC_any (rb N g : Nat) (c : Value) (ps : List RR) (w : World) (h : RBk w rb bodyC) (_hk : Kin w) (_hc : Ca w N g c ps) (_hg : g ≠ rb) (hlow : ∀ W, Kp (fun k => k = rb) w W → Kin W ∧ Ca W N g c ps) :
    Calls Tryz.prog 139 #[.pointer (some ⟨rb, 0, none⟩), .pointer (some ⟨g, 0, none⟩), .int .u8 67] w fun e w' => e = .returned (mlC 5 0).agg ∧ Kp (fun k => k = rb) w w' := by
  have HR0 := Hm h
  have HLW := Hm hlow
  have HN1 := Hm (fun W (h : RBk W rb bodyC) => show Calls Tryz.prog 158 #[.pointer (some ⟨rb, 0, none⟩), .int .u64 4] W (fun e w' => e = .returned (.int .u64 5) ∧ RBk w' rb (bodyC.drop 4) ∧ Kp (fun k => k = rb) W w') from rnumber_any rb 4 bodyC W h (by decide) (by decide) (by decide) bodyC_b)
  have HN2 := Hm (fun W (h : RBk W rb (bodyC.drop 4)) => show Calls Tryz.prog 158 #[.pointer (some ⟨rb, 0, none⟩), .int .u64 4] W (fun e w' => e = .returned (.int .u64 0) ∧ RBk w' rb [] ∧ Kp (fun k => k = rb) W w') from rnumber_any rb 4 (bodyC.drop 4) W h (by decide) (by decide) (by decide) (fun x hx => bodyC_b x (List.mem_of_mem_drop hx)))
  have HND := Hm (fun e W => need_any e W)
  have HRG := Hm (fun W (h : Kp (fun k => k = rb) w W) => show Calls Tryz.prog 36 #[.agg #[.int .u8 67, .int .u32 5, .int .u64 0, .int .u32 0, .int .u32 0, .int .u32 0, .string ⟨#[]⟩, .int .u8 0, .slice none 0 0, .int .u8 0, .int .u32 0, .int .u32 0, .int .u8 0, .slice none 0 0, .slice none 0 0, .slice none 0 0, .int .u8 0], .pointer (some ⟨g, 0, none⟩)] W (fun e w' => e = .returned (.int .i64 0) ∧ Ext W w') from by
    have h1 := mright_any (mlC 5 0) N g c ps W (mlC_at W 5 0) (Nat.zero_le _) (Nat.zero_le _) (by decide) (fun c hc => by cases hc) Ev0_okw.sm Ev0_okw.wk (show (0 : Int) ≤ 67 by decide) (show (67 : Int) < 256 by decide) (HLW.out W h).1 (HLW.out W h).2
    rw [msgE_C] at h1
    exact h1)
  have hrb := (show rb < w.heap.size from by obtain ⟨a, c, h1, -⟩ := h; exact h1.lt)
  clear h _hk _hc hlow _hg
  go_enter Tryz.func139, Tryz.ntmps139
  go_upto_region 12 with (first
    | (go_at_call 158; refine (HN1.out _ (HR0.out.ext (by exact eX))).mono ?_; rintro e w1 ⟨rfl, hr1, hk1⟩; have HR1 := Hm hr1; have HK1 := Hm hk1; clear HN1 hr1 hk1)
    | (go_at_call 158; refine (HN2.out _ HR1.out).mono ?_; rintro e w2 ⟨rfl, hr2, hk2⟩; have HR2 := Hm hr2; have HK2 := Hm (HK1.out.trans hk2 (fun _ h _ => h)); have HX2 := Hm ((Blk.new' (w := w.alloc (.cells #[.int .u8 0, .int .u32 0, .int .u64 0, .int .u32 0, .int .u32 0, .int .u32 0, .string ⟨#[]⟩, .int .u8 0, .slice none 0 0, .int .u8 0, .int .u32 0, .int .u32 0, .int .u8 0, .slice none 0 0, .slice none 0 0, .slice none 0 0, .int .u8 0] 76)) (b := w.heap.size + 1) #[.int .u8 67, .int .u32 0, .int .u64 0, .int .u32 0, .int .u32 0, .int .u32 0, .string ⟨#[]⟩, .int .u8 0, .slice none 0 0, .int .u8 0, .int .u32 0, .int .u32 0, .int .u8 0, .slice none 0 0, .slice none 0 0, .slice none 0 0, .int .u8 0] 76 (by simp)).kp HK2.out (by omega)); have HZ2 := Hm (((Blk.new w #[.int .u8 0, .int .u32 0, .int .u64 0, .int .u32 0, .int .u32 0, .int .u32 0, .string ⟨#[]⟩, .int .u8 0, .slice none 0 0, .int .u8 0, .int .u32 0, .int .u32 0, .int .u8 0, .slice none 0 0, .slice none 0 0, .slice none 0 0, .int .u8 0] 76).alloc (.cells #[.int .u8 67, .int .u32 0, .int .u64 0, .int .u32 0, .int .u32 0, .int .u32 0, .string ⟨#[]⟩, .int .u8 0, .slice none 0 0, .int .u8 0, .int .u32 0, .int .u32 0, .int .u8 0, .slice none 0 0, .slice none 0 0, .slice none 0 0, .int .u8 0] 76)).kp HK2.out (by omega)); have g2 := HX2.out.cell; have g2f := HX2.out.frozen; have g2z := HX2.out.lt; clear HN2 hr2 hk2))
  obtain ⟨w3, hw3⟩ : ∃ W, W = (w2.setCell ⟨w.heap.size + 1, 1, none⟩ (.int .u32 5)).setCell ⟨w.heap.size + 1, 3, none⟩ (.int .u32 0) := ⟨_, rfl⟩
  have HS3 : Hid (Kp (fun k => k = w.heap.size + 1) w2 w3) := Hm (by rw [hw3]; exact (Kp.set (S := fun k => k = w.heap.size + 1) _ _ rfl).trans (Kp.set (S := fun k => k = w.heap.size + 1) _ _ rfl) (fun _ h _ => h))
  have HX3 : Hid (Blk w3 (w.heap.size + 1) #[.int .u8 67, .int .u32 5, .int .u64 0, .int .u32 0, .int .u32 0, .int .u32 0, .string ⟨#[]⟩, .int .u8 0, .slice none 0 0, .int .u8 0, .int .u32 0, .int .u32 0, .int .u8 0, .slice none 0 0, .slice none 0 0, .slice none 0 0, .int .u8 0] 76) := Hm (by
    have h := (HX2.out.set 1 (.int .u32 5)).set 3 (.int .u32 0)
    simp only [List.setIfInBounds_toArray, List.set_cons_zero, List.set_cons_succ] at h
    rw [hw3]; exact h)
  have HZ3 : Hid (Blk w3 w.heap.size #[.int .u8 0, .int .u32 0, .int .u64 0, .int .u32 0, .int .u32 0, .int .u32 0, .string ⟨#[]⟩, .int .u8 0, .slice none 0 0, .int .u8 0, .int .u32 0, .int .u32 0, .int .u8 0, .slice none 0 0, .slice none 0 0, .slice none 0 0, .int .u8 0] 76) := Hm (HZ2.out.kp HS3.out (by omega))
  have HK3 : Hid (Kp (fun k => k = rb) w w3) := Hm (((Kp.of_ext (S := fun k => k = rb) (show Ext w ((w.alloc (.cells #[.int .u8 0, .int .u32 0, .int .u64 0, .int .u32 0, .int .u32 0, .int .u32 0, .string ⟨#[]⟩, .int .u8 0, .slice none 0 0, .int .u8 0, .int .u32 0, .int .u32 0, .int .u8 0, .slice none 0 0, .slice none 0 0, .slice none 0 0, .int .u8 0] 76)).alloc (.cells #[.int .u8 67, .int .u32 0, .int .u64 0, .int .u32 0, .int .u32 0, .int .u32 0, .string ⟨#[]⟩, .int .u8 0, .slice none 0 0, .int .u8 0, .int .u32 0, .int .u32 0, .int .u8 0, .slice none 0 0, .slice none 0 0, .slice none 0 0, .int .u8 0] 76)) from ((Ext.refl w).alloc _).alloc _)).trans HK2.out (fun _ h _ => h)).trans HS3.out (fun x h hx => by have h2 : x = w.heap.size + 1 := h; exact absurd h2 (by omega)))
  obtain ⟨ra, rc, hb3, -, -⟩ := HR2.out
  have hb4 := hb3.kp HS3.out (show ¬ rb = w.heap.size + 1 by omega)
  have r3 := hb4.cell
  have r3z := hb4.lt
  rw [← hw3]
  clear hw3 HX2 HZ2 HK2 HK1 HR1 HR2 HR0 HS3 g2 g2f g2z hb3 hb4
  have g3 := HX3.out.cell
  have g3z := HX3.out.lt
  go_upto_region 13 with (go_at_call 162; refine (HND.out _ _).mono ?_; rintro e w4 ⟨rfl, rfl⟩)
  clear r3 r3z
  have HE5F := Hm (fun W (h : Ext w3 W) => show (Instr.storeAt 76 (.pointer (some ⟨w.heap.size, 0, none⟩)) (.agg #[.int .u8 67, .int .u32 5, .int .u64 0, .int .u32 0, .int .u32 0, .int .u32 0, .string ⟨#[]⟩, .int .u8 0, .slice none 0 0, .int .u8 0, .int .u32 0, .int .u32 0, .int .u8 0, .slice none 0 0, .slice none 0 0, .slice none 0 0, .int .u8 0])).run Tryz.prog W = .ok () _ from store17 (HZ3.out.ext h))
  as_aux_lemma =>
    go_wp2_with (first
      | (refine wpList_load_to rfl 76 (.tmp 7) rfl _ _ ?e1 (load17 HX3.out) ?_; (case e1 => go_simp))
      | (go_at_call 36; refine (HRG.out _ HK3.out).mono ?_; rintro e w5 ⟨rfl, hb5⟩; have HE5 := Hm hb5; clear hb5)
      | (go_at_call 162; refine (HND.out _ _).mono ?_; rintro e w6 ⟨rfl, rfl⟩)
      | (refine wpList_load_to rfl 76 (.tmp 7) rfl _ _ ?e1 (load17 (HX3.out.ext HE5.out)) ?_; (case e1 => go_simp))
      | (refine wpList_store_to rfl 76 (.tmp 6) (.tmp 60) rfl _ _ ?e1 ?e2 (HE5F.out _ HE5.out) ?_; (case e1 => go_simp); (case e2 => go_simp)))
    as_aux_lemma =>
      refine bodyPost_ret (res_wmsg (Blk.c17 (HZ3.out.ext HE5.out)) rfl) rfl ⟨rfl, Kp.new17 (HK3.out.trans (Kp.of_ext HE5.out) (fun _ h _ => h)) (Nat.le_refl _)⟩
theorem body1_idle (p q : Addr) (w : World) :
    CallsD Tryz.prog 138 #[.pointer (some p), .pointer (some q)] .returning w fun e u' w' => e = .returned (.tuple #[]) ∧ u' = .returning ∧ w' = w := by
  refine callsD_of_wpS Tryz.func138 rfl fun c₀ cs hu => ?_
  apply wpS_seq
  apply wpS_region
  simp [wpOpsS, go_sem, recoverD, hu, Tryz.ntmps138, Exit.thenS]
  apply wpS_seq
  apply wpS_seq
  apply wpS_region
  simp [wpOpsS, go_sem, Exit.thenS]
  refine wpS_cond (t := true) (by simp [Act.eval]) ?_
  simp only [if_true]
  refine wpS_of_wp (wp_ret ?_)
  cases c₀
  simp_all [Exit.thenS, bodyPostS, results, Tryz.results138]
--BODIES
theorem bodyB_any (bb o cp N g : Nat) (c : Value) (ps : List RR) (w : World) (hs : Sl w (.slice (some ⟨bb, o, none⟩) 12 cp) 1 (bodyB.map bcell)) (hcp : 12 ≤ cp) (hk : Kin w) (hc : Ca w N g c ps) :
    Calls Tryz.prog 108 #[.pointer (some ⟨g, 0, none⟩), .int .u8 66, .slice (some ⟨bb, o, none⟩) 12 cp] w fun e w' => e = .returned (.tuple #[(mlB 5 0).agg, .int .i64 0]) ∧ Ext w w' := by
  have hE1 : Ext w (((w.alloc (.cells #[.int .u8 0, .int .u32 0, .int .u64 0, .int .u32 0, .int .u32 0, .int .u32 0, .string ⟨#[]⟩, .int .u8 0, .slice none 0 0, .int .u8 0, .int .u32 0, .int .u32 0, .int .u8 0, .slice none 0 0, .slice none 0 0, .slice none 0 0, .int .u8 0] 76)).alloc (.cells #[.int .i64 0] 31)).alloc (.cells #[.slice (some ⟨bb, o, none⟩) 12 cp] 226)) := (((Ext.refl w).alloc _).alloc _).alloc _
  have hrb : RBk (((w.alloc (.cells #[.int .u8 0, .int .u32 0, .int .u64 0, .int .u32 0, .int .u32 0, .int .u32 0, .string ⟨#[]⟩, .int .u8 0, .slice none 0 0, .int .u8 0, .int .u32 0, .int .u32 0, .int .u8 0, .slice none 0 0, .slice none 0 0, .slice none 0 0, .int .u8 0] 76)).alloc (.cells #[.int .i64 0] 31)).alloc (.cells #[.slice (some ⟨bb, o, none⟩) 12 cp] 226)) (w.heap.size + 1 + 1) bodyB := ⟨some ⟨bb, o, none⟩, cp, Blk.new' _ _ (by simp), hs.ext hE1, hcp⟩
  have hx0 : Blk (((w.alloc (.cells #[.int .u8 0, .int .u32 0, .int .u64 0, .int .u32 0, .int .u32 0, .int .u32 0, .string ⟨#[]⟩, .int .u8 0, .slice none 0 0, .int .u8 0, .int .u32 0, .int .u32 0, .int .u8 0, .slice none 0 0, .slice none 0 0, .slice none 0 0, .int .u8 0] 76)).alloc (.cells #[.int .i64 0] 31)).alloc (.cells #[.slice (some ⟨bb, o, none⟩) 12 cp] 226)) w.heap.size #[.int .u8 0, .int .u32 0, .int .u64 0, .int .u32 0, .int .u32 0, .int .u32 0, .string ⟨#[]⟩, .int .u8 0, .slice none 0 0, .int .u8 0, .int .u32 0, .int .u32 0, .int .u8 0, .slice none 0 0, .slice none 0 0, .slice none 0 0, .int .u8 0] 76 := ((Blk.new _ _ _).alloc _).alloc _
  have hx1 : Blk (((w.alloc (.cells #[.int .u8 0, .int .u32 0, .int .u64 0, .int .u32 0, .int .u32 0, .int .u32 0, .string ⟨#[]⟩, .int .u8 0, .slice none 0 0, .int .u8 0, .int .u32 0, .int .u32 0, .int .u8 0, .slice none 0 0, .slice none 0 0, .slice none 0 0, .int .u8 0] 76)).alloc (.cells #[.int .i64 0] 31)).alloc (.cells #[.slice (some ⟨bb, o, none⟩) 12 cp] 226)) (w.heap.size + 1) #[.int .i64 0] 31 := (Blk.new' _ _ (by simp)).alloc _
  have HX0 := Hm hx0
  have HX1 := Hm hx1
  have HE1 := Hm hE1
  have HG : Hid (g < w.heap.size) := Hm hc.ptr.lt
  have HMG := Hm (show Calls Tryz.prog 139 #[.pointer (some ⟨w.heap.size + 1 + 1, 0, none⟩), .pointer (some ⟨g, 0, none⟩), .int .u8 66] (((w.alloc (.cells #[.int .u8 0, .int .u32 0, .int .u64 0, .int .u32 0, .int .u32 0, .int .u32 0, .string ⟨#[]⟩, .int .u8 0, .slice none 0 0, .int .u8 0, .int .u32 0, .int .u32 0, .int .u8 0, .slice none 0 0, .slice none 0 0, .slice none 0 0, .int .u8 0] 76)).alloc (.cells #[.int .i64 0] 31)).alloc (.cells #[.slice (some ⟨bb, o, none⟩) 12 cp] 226)) (fun e w' => e = .returned (.agg #[.int .u8 66, .int .u32 5, .int .u64 0, .int .u32 0, .int .u32 0, .int .u32 0, .string ⟨#[]⟩, .int .u8 0, .slice none 0 0, .int .u8 0, .int .u32 0, .int .u32 0, .int .u8 0, .slice none 0 0, .slice none 0 0, .slice none 0 0, .int .u8 0]) ∧ Kp (fun k => k = w.heap.size + 1 + 1) (((w.alloc (.cells #[.int .u8 0, .int .u32 0, .int .u64 0, .int .u32 0, .int .u32 0, .int .u32 0, .string ⟨#[]⟩, .int .u8 0, .slice none 0 0, .int .u8 0, .int .u32 0, .int .u32 0, .int .u8 0, .slice none 0 0, .slice none 0 0, .slice none 0 0, .int .u8 0] 76)).alloc (.cells #[.int .i64 0] 31)).alloc (.cells #[.slice (some ⟨bb, o, none⟩) 12 cp] 226)) w') from msgB_any (w.heap.size + 1 + 1) N g c ps (((w.alloc (.cells #[.int .u8 0, .int .u32 0, .int .u64 0, .int .u32 0, .int .u32 0, .int .u32 0, .string ⟨#[]⟩, .int .u8 0, .slice none 0 0, .int .u8 0, .int .u32 0, .int .u32 0, .int .u8 0, .slice none 0 0, .slice none 0 0, .slice none 0 0, .int .u8 0] 76)).alloc (.cells #[.int .i64 0] 31)).alloc (.cells #[.slice (some ⟨bb, o, none⟩) 12 cp] 226)) hrb (hk.ext hE1) (hc.ext hE1) (by have := hc.ptr.lt; omega) (fun W h => by
    have hE : Ext w W := Kp.ext hE1 (fun x hx _ => by have h2 : x = w.heap.size + 1 + 1 := hx; omega) h
    exact ⟨hk.ext hE, hc.ext hE⟩))
  have hmf : ∀ (fn : Fn) (first cap : Array Value) (w : World), (Instr.makeFunc fn first cap).run Tryz.prog w = .ok (.func fn first cap) w := fun _ _ _ _ => rfl
  clear hs hk hc hrb hE1 hx0 hx1
  go_enter_defers Tryz.func108, Tryz.ntmps108
  go_wp2_with (first
    | (go_at_call 139; (refine HMG.out.mono ?_; rintro e w2 ⟨rfl, hk2⟩; have HK2 := Hm hk2; have HZ2 := Hm (HX0.out.kp hk2 (show ¬ w.heap.size = w.heap.size + 1 + 1 by omega)); have hx2 := HX1.out.kp hk2 (show ¬ w.heap.size + 1 = w.heap.size + 1 + 1 by omega); have hex : ∃ w3, (Instr.storeAt 76 (.pointer (some ⟨w.heap.size, 0, none⟩)) (.agg #[.int .u8 66, .int .u32 5, .int .u64 0, .int .u32 0, .int .u32 0, .int .u32 0, .string ⟨#[]⟩, .int .u8 0, .slice none 0 0, .int .u8 0, .int .u32 0, .int .u32 0, .int .u8 0, .slice none 0 0, .slice none 0 0, .slice none 0 0, .int .u8 0])).run Tryz.prog w2 = .ok () w3 ∧ Blk w3 w.heap.size #[.int .u8 66, .int .u32 5, .int .u64 0, .int .u32 0, .int .u32 0, .int .u32 0, .string ⟨#[]⟩, .int .u8 0, .slice none 0 0, .int .u8 0, .int .u32 0, .int .u32 0, .int .u8 0, .slice none 0 0, .slice none 0 0, .slice none 0 0, .int .u8 0] 76 ∧ Blk w3 (w.heap.size + 1) #[.int .i64 0] 31 ∧ Kp (fun k => k = w.heap.size) w2 w3 := ⟨_, store17 HZ2.out, Blk.c17 HZ2.out, hx2.kp (Kp.w17 (Kp.refl (S := fun k => k = w.heap.size)) rfl) (show ¬ w.heap.size + 1 = w.heap.size by omega), Kp.w17 (Kp.refl (S := fun k => k = w.heap.size)) rfl⟩; obtain ⟨w3, hst, hb3, hx3, hk3⟩ := hex; have HST := Hm hst; have HB3 := Hm hb3; have HX3 := Hm hx3; have HK3 := Hm hk3; have x3 := hx3.cell; have x3f := hx3.frozen; have x3z := hx3.lt; clear hst hb3 hx3 hk3 hx2; clear hk2))
    | (refine wpList_store_to rfl 76 (.tmp 6) (.tmp 16) rfl _ _ ?e1 ?e2 HST.out ?_; (case e1 => go_simp); (case e2 => go_simp)))
  have hb5 : Blk (w3.setCell ⟨w.heap.size + 1, 0, none⟩ (.int .i64 0)) (w.heap.size + 1) #[.int .i64 0] 31 := by simpa using HX3.out.set 0 (.int .i64 0)
  have hb6 : Blk (w3.setCell ⟨w.heap.size + 1, 0, none⟩ (.int .i64 0)) w.heap.size #[.int .u8 66, .int .u32 5, .int .u64 0, .int .u32 0, .int .u32 0, .int .u32 0, .string ⟨#[]⟩, .int .u8 0, .slice none 0 0, .int .u8 0, .int .u32 0, .int .u32 0, .int .u8 0, .slice none 0 0, .slice none 0 0, .slice none 0 0, .int .u8 0] 76 := HB3.out.kp (Kp.set (S := fun k => k = w.heap.size + 1) _ _ rfl) (show ¬ w.heap.size = w.heap.size + 1 by omega)
  have he6 : Ext w (w3.setCell ⟨w.heap.size + 1, 0, none⟩ (.int .i64 0)) := Ext.setCell (Kp.ext (Kp.ext HE1.out (fun x hx _ => by have h2 : x = w.heap.size + 1 + 1 := hx; omega) HK2.out) (fun x hx _ => by have h2 : x = w.heap.size := hx; omega) HK3.out) (by show w.heap.size ≤ w.heap.size + 1; omega) _
  clear x3 x3f x3z HB3 HX3 HK3 HST HK2 HZ2
  obtain ⟨w6, hw6⟩ : ∃ W, W = w3.setCell ⟨w.heap.size + 1, 0, none⟩ (.int .i64 0) := ⟨_, rfl⟩
  rw [← hw6] at hb5 hb6 he6 ⊢
  have d0 := hb5.cell 0
  have c := hb6.cell
  have c0 := c 0
  have c1 := c 1
  have c2 := c 2
  have c3 := c 3
  have c4 := c 4
  have c5 := c 5
  have c6 := c 6
  have c7 := c 7
  have c8 := c 8
  have c9 := c 9
  have c10 := c 10
  have c11 := c 11
  have c12 := c 12
  have c13 := c 13
  have c14 := c 14
  have c15 := c 15
  have c16 := c 16
  clear c hb5 hb6 hw6
  simp at d0 c0 c1 c2 c3 c4 c5 c6 c7 c8 c9 c10 c11 c12 c13 c14 c15 c16
  refine leaves_cons (f := 138) (args := #[.pointer (some ⟨w.heap.size, 0, none⟩), .pointer (some ⟨w.heap.size + 1, 0, none⟩)]) (by simp) (by simp [go_sem]) ?_
  refine (body1_idle ⟨w.heap.size, 0, none⟩ ⟨w.heap.size + 1, 0, none⟩ _).mono ?_
  rintro e u' w'' ⟨rfl, rfl, rfl⟩
  simp [Leaves, settle, results, Tryz.results108, go_sem, d0, c0, c1, c2, c3, c4, c5, c6, c7, c8, c9, c10, c11, c12, c13, c14, c15, c16]
  exact ⟨rfl, he6⟩
theorem bodyC_any (bb o cp N g : Nat) (c : Value) (ps : List RR) (w : World) (hs : Sl w (.slice (some ⟨bb, o, none⟩) 8 cp) 1 (bodyC.map bcell)) (hcp : 8 ≤ cp) (hk : Kin w) (hc : Ca w N g c ps) :
    Calls Tryz.prog 108 #[.pointer (some ⟨g, 0, none⟩), .int .u8 67, .slice (some ⟨bb, o, none⟩) 8 cp] w fun e w' => e = .returned (.tuple #[(mlC 5 0).agg, .int .i64 0]) ∧ Ext w w' := by
  have hE1 : Ext w (((w.alloc (.cells #[.int .u8 0, .int .u32 0, .int .u64 0, .int .u32 0, .int .u32 0, .int .u32 0, .string ⟨#[]⟩, .int .u8 0, .slice none 0 0, .int .u8 0, .int .u32 0, .int .u32 0, .int .u8 0, .slice none 0 0, .slice none 0 0, .slice none 0 0, .int .u8 0] 76)).alloc (.cells #[.int .i64 0] 31)).alloc (.cells #[.slice (some ⟨bb, o, none⟩) 8 cp] 226)) := (((Ext.refl w).alloc _).alloc _).alloc _
  have hrb : RBk (((w.alloc (.cells #[.int .u8 0, .int .u32 0, .int .u64 0, .int .u32 0, .int .u32 0, .int .u32 0, .string ⟨#[]⟩, .int .u8 0, .slice none 0 0, .int .u8 0, .int .u32 0, .int .u32 0, .int .u8 0, .slice none 0 0, .slice none 0 0, .slice none 0 0, .int .u8 0] 76)).alloc (.cells #[.int .i64 0] 31)).alloc (.cells #[.slice (some ⟨bb, o, none⟩) 8 cp] 226)) (w.heap.size + 1 + 1) bodyC := ⟨some ⟨bb, o, none⟩, cp, Blk.new' _ _ (by simp), hs.ext hE1, hcp⟩
  have hx0 : Blk (((w.alloc (.cells #[.int .u8 0, .int .u32 0, .int .u64 0, .int .u32 0, .int .u32 0, .int .u32 0, .string ⟨#[]⟩, .int .u8 0, .slice none 0 0, .int .u8 0, .int .u32 0, .int .u32 0, .int .u8 0, .slice none 0 0, .slice none 0 0, .slice none 0 0, .int .u8 0] 76)).alloc (.cells #[.int .i64 0] 31)).alloc (.cells #[.slice (some ⟨bb, o, none⟩) 8 cp] 226)) w.heap.size #[.int .u8 0, .int .u32 0, .int .u64 0, .int .u32 0, .int .u32 0, .int .u32 0, .string ⟨#[]⟩, .int .u8 0, .slice none 0 0, .int .u8 0, .int .u32 0, .int .u32 0, .int .u8 0, .slice none 0 0, .slice none 0 0, .slice none 0 0, .int .u8 0] 76 := ((Blk.new _ _ _).alloc _).alloc _
  have hx1 : Blk (((w.alloc (.cells #[.int .u8 0, .int .u32 0, .int .u64 0, .int .u32 0, .int .u32 0, .int .u32 0, .string ⟨#[]⟩, .int .u8 0, .slice none 0 0, .int .u8 0, .int .u32 0, .int .u32 0, .int .u8 0, .slice none 0 0, .slice none 0 0, .slice none 0 0, .int .u8 0] 76)).alloc (.cells #[.int .i64 0] 31)).alloc (.cells #[.slice (some ⟨bb, o, none⟩) 8 cp] 226)) (w.heap.size + 1) #[.int .i64 0] 31 := (Blk.new' _ _ (by simp)).alloc _
  have HX0 := Hm hx0
  have HX1 := Hm hx1
  have HE1 := Hm hE1
  have HG : Hid (g < w.heap.size) := Hm hc.ptr.lt
  have HMG := Hm (show Calls Tryz.prog 139 #[.pointer (some ⟨w.heap.size + 1 + 1, 0, none⟩), .pointer (some ⟨g, 0, none⟩), .int .u8 67] (((w.alloc (.cells #[.int .u8 0, .int .u32 0, .int .u64 0, .int .u32 0, .int .u32 0, .int .u32 0, .string ⟨#[]⟩, .int .u8 0, .slice none 0 0, .int .u8 0, .int .u32 0, .int .u32 0, .int .u8 0, .slice none 0 0, .slice none 0 0, .slice none 0 0, .int .u8 0] 76)).alloc (.cells #[.int .i64 0] 31)).alloc (.cells #[.slice (some ⟨bb, o, none⟩) 8 cp] 226)) (fun e w' => e = .returned (.agg #[.int .u8 67, .int .u32 5, .int .u64 0, .int .u32 0, .int .u32 0, .int .u32 0, .string ⟨#[]⟩, .int .u8 0, .slice none 0 0, .int .u8 0, .int .u32 0, .int .u32 0, .int .u8 0, .slice none 0 0, .slice none 0 0, .slice none 0 0, .int .u8 0]) ∧ Kp (fun k => k = w.heap.size + 1 + 1) (((w.alloc (.cells #[.int .u8 0, .int .u32 0, .int .u64 0, .int .u32 0, .int .u32 0, .int .u32 0, .string ⟨#[]⟩, .int .u8 0, .slice none 0 0, .int .u8 0, .int .u32 0, .int .u32 0, .int .u8 0, .slice none 0 0, .slice none 0 0, .slice none 0 0, .int .u8 0] 76)).alloc (.cells #[.int .i64 0] 31)).alloc (.cells #[.slice (some ⟨bb, o, none⟩) 8 cp] 226)) w') from msgC_any (w.heap.size + 1 + 1) N g c ps (((w.alloc (.cells #[.int .u8 0, .int .u32 0, .int .u64 0, .int .u32 0, .int .u32 0, .int .u32 0, .string ⟨#[]⟩, .int .u8 0, .slice none 0 0, .int .u8 0, .int .u32 0, .int .u32 0, .int .u8 0, .slice none 0 0, .slice none 0 0, .slice none 0 0, .int .u8 0] 76)).alloc (.cells #[.int .i64 0] 31)).alloc (.cells #[.slice (some ⟨bb, o, none⟩) 8 cp] 226)) hrb (hk.ext hE1) (hc.ext hE1) (by have := hc.ptr.lt; omega) (fun W h => by
    have hE : Ext w W := Kp.ext hE1 (fun x hx _ => by have h2 : x = w.heap.size + 1 + 1 := hx; omega) h
    exact ⟨hk.ext hE, hc.ext hE⟩))
  have hmf : ∀ (fn : Fn) (first cap : Array Value) (w : World), (Instr.makeFunc fn first cap).run Tryz.prog w = .ok (.func fn first cap) w := fun _ _ _ _ => rfl
  clear hs hk hc hrb hE1 hx0 hx1
  go_enter_defers Tryz.func108, Tryz.ntmps108
  go_wp2_with (first
    | (go_at_call 139; (refine HMG.out.mono ?_; rintro e w2 ⟨rfl, hk2⟩; have HK2 := Hm hk2; have HZ2 := Hm (HX0.out.kp hk2 (show ¬ w.heap.size = w.heap.size + 1 + 1 by omega)); have hx2 := HX1.out.kp hk2 (show ¬ w.heap.size + 1 = w.heap.size + 1 + 1 by omega); have hex : ∃ w3, (Instr.storeAt 76 (.pointer (some ⟨w.heap.size, 0, none⟩)) (.agg #[.int .u8 67, .int .u32 5, .int .u64 0, .int .u32 0, .int .u32 0, .int .u32 0, .string ⟨#[]⟩, .int .u8 0, .slice none 0 0, .int .u8 0, .int .u32 0, .int .u32 0, .int .u8 0, .slice none 0 0, .slice none 0 0, .slice none 0 0, .int .u8 0])).run Tryz.prog w2 = .ok () w3 ∧ Blk w3 w.heap.size #[.int .u8 67, .int .u32 5, .int .u64 0, .int .u32 0, .int .u32 0, .int .u32 0, .string ⟨#[]⟩, .int .u8 0, .slice none 0 0, .int .u8 0, .int .u32 0, .int .u32 0, .int .u8 0, .slice none 0 0, .slice none 0 0, .slice none 0 0, .int .u8 0] 76 ∧ Blk w3 (w.heap.size + 1) #[.int .i64 0] 31 ∧ Kp (fun k => k = w.heap.size) w2 w3 := ⟨_, store17 HZ2.out, Blk.c17 HZ2.out, hx2.kp (Kp.w17 (Kp.refl (S := fun k => k = w.heap.size)) rfl) (show ¬ w.heap.size + 1 = w.heap.size by omega), Kp.w17 (Kp.refl (S := fun k => k = w.heap.size)) rfl⟩; obtain ⟨w3, hst, hb3, hx3, hk3⟩ := hex; have HST := Hm hst; have HB3 := Hm hb3; have HX3 := Hm hx3; have HK3 := Hm hk3; have x3 := hx3.cell; have x3f := hx3.frozen; have x3z := hx3.lt; clear hst hb3 hx3 hk3 hx2; clear hk2))
    | (refine wpList_store_to rfl 76 (.tmp 6) (.tmp 16) rfl _ _ ?e1 ?e2 HST.out ?_; (case e1 => go_simp); (case e2 => go_simp)))
  have hb5 : Blk (w3.setCell ⟨w.heap.size + 1, 0, none⟩ (.int .i64 0)) (w.heap.size + 1) #[.int .i64 0] 31 := by simpa using HX3.out.set 0 (.int .i64 0)
  have hb6 : Blk (w3.setCell ⟨w.heap.size + 1, 0, none⟩ (.int .i64 0)) w.heap.size #[.int .u8 67, .int .u32 5, .int .u64 0, .int .u32 0, .int .u32 0, .int .u32 0, .string ⟨#[]⟩, .int .u8 0, .slice none 0 0, .int .u8 0, .int .u32 0, .int .u32 0, .int .u8 0, .slice none 0 0, .slice none 0 0, .slice none 0 0, .int .u8 0] 76 := HB3.out.kp (Kp.set (S := fun k => k = w.heap.size + 1) _ _ rfl) (show ¬ w.heap.size = w.heap.size + 1 by omega)
  have he6 : Ext w (w3.setCell ⟨w.heap.size + 1, 0, none⟩ (.int .i64 0)) := Ext.setCell (Kp.ext (Kp.ext HE1.out (fun x hx _ => by have h2 : x = w.heap.size + 1 + 1 := hx; omega) HK2.out) (fun x hx _ => by have h2 : x = w.heap.size := hx; omega) HK3.out) (by show w.heap.size ≤ w.heap.size + 1; omega) _
  clear x3 x3f x3z HB3 HX3 HK3 HST HK2 HZ2
  obtain ⟨w6, hw6⟩ : ∃ W, W = w3.setCell ⟨w.heap.size + 1, 0, none⟩ (.int .i64 0) := ⟨_, rfl⟩
  rw [← hw6] at hb5 hb6 he6 ⊢
  have d0 := hb5.cell 0
  have c := hb6.cell
  have c0 := c 0
  have c1 := c 1
  have c2 := c 2
  have c3 := c 3
  have c4 := c 4
  have c5 := c 5
  have c6 := c 6
  have c7 := c 7
  have c8 := c 8
  have c9 := c 9
  have c10 := c 10
  have c11 := c 11
  have c12 := c 12
  have c13 := c 13
  have c14 := c 14
  have c15 := c 15
  have c16 := c 16
  clear c hb5 hb6 hw6
  simp at d0 c0 c1 c2 c3 c4 c5 c6 c7 c8 c9 c10 c11 c12 c13 c14 c15 c16
  refine leaves_cons (f := 138) (args := #[.pointer (some ⟨w.heap.size, 0, none⟩), .pointer (some ⟨w.heap.size + 1, 0, none⟩)]) (by simp) (by simp [go_sem]) ?_
  refine (body1_idle ⟨w.heap.size, 0, none⟩ ⟨w.heap.size + 1, 0, none⟩ _).mono ?_
  rintro e u' w'' ⟨rfl, rfl, rfl⟩
  simp [Leaves, settle, results, Tryz.results108, go_sem, d0, c0, c1, c2, c3, c4, c5, c6, c7, c8, c9, c10, c11, c12, c13, c14, c15, c16]
  exact ⟨rfl, he6⟩
end Go.Proofs.YtdlhaidlokkmnaaGreatDoor
