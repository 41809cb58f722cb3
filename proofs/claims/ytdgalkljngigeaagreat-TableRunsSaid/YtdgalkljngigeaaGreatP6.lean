/-
The laws' Own of an event.
-/
import Derived.Deep.RegionHeld
import Derived.Maps.AppendAt
import Derived.RangeFuncBox
import Derived.Test.YtdgalkljngigeaaGreatP5
namespace Go.Proofs.YtdgalkljngigeaaGreat
open Go.RowKit

theorem Tryz.infoRfE : (Tryz.prog.info? 68).map (fun i => (i.zero, i.size, i.bytes)) = some (some (.agg #[.int .u32 0, .int .u32 0]), 2, 8) := by kernel_rfl

set_option maxRecDepth 100000 in set_option maxHeartbeats 4000000 in
theorem eown_any (kind ao av old : Int) (lb la : List K) (rs : List Rf) (fl : Int) (ba aa ra : Option Addr) (bc ac rc : Nat) (w : World) (hb : Sl w (.slice ba lb.length bc) 6 (lb.map K.rc)) (ha : Sl w (.slice aa la.length ac) 6 (la.map K.rc)) (hr : Sl w (.slice ra rs.length rc) 2 (rs.map Rf.cells)) (hnb : lb.length ≤ 1000) (hna : la.length ≤ 1000) (hnr : rs.length ≤ 1000) :
    Calls Tryz.prog 36 #[.agg #[.int .u8 kind, .int .u32 ao, .int .u32 av, .int .u8 old, .slice ba lb.length bc, .slice aa la.length ac, .slice ra rs.length rc, .int .u8 fl]] w fun e w' => ∃ b1 c1 a1 d1 r1 e1, e = .returned (.agg #[.int .u8 kind, .int .u32 ao, .int .u32 av, .int .u8 old, .slice b1 lb.length c1, .slice a1 la.length d1, .slice r1 rs.length e1, .int .u8 fl]) ∧ (⟨⟨kind, ao, av, old, lb, la, rs, fl⟩, b1, c1, a1, d1, r1, e1⟩ : EL).at 5 K.pc w' ∧ (⟨⟨kind, ao, av, old, lb, la, rs, fl⟩, b1, c1, a1, d1, r1, e1⟩ : EL).on (fun b => w.heap.size ≤ b) ∧ Ext w w' := by
  obtain ⟨i0, hi, hz0, hz1, hz2⟩ := info_parts Tryz.infoRfE
  have HOB := Hid.mk' (fun W (h : Ext w W) => ownK_fr lb ba bc W (hb.ext h) hnb)
  have HOA := Hid.mk' (fun W (h : Ext w W) => ownK_fr la aa ac W (ha.ext h) hna)
  have HR := Hid.mk' hr
  clear hb ha hr
  go_enter Tryz.func36, Tryz.ntmps36
  go_upto_region 1 with (fail)
  go_cut [3] (fun p wx => ∃ X b1 c1 a1 d1, p = .pointer (some ⟨X, 0, none⟩) ∧ Hid (Blk wx X #[.int .u8 kind, .int .u32 ao, .int .u32 av, .int .u8 old, .slice b1 lb.length c1, .slice a1 la.length d1, .slice none 0 0, .int .u8 fl] 103) ∧ Hid (Sl wx (.slice b1 lb.length c1) 5 (lb.map K.pc)) ∧ Hid (Sl wx (.slice a1 la.length d1) 5 (la.map K.pc)) ∧ Hid (lb.map K.pc ≠ [] → ∀ b o, b1 = some ⟨b, o, none⟩ → b ≠ X ∧ w.heap.size + 1 < b) ∧ Hid (la.map K.pc ≠ [] → ∀ b o, a1 = some ⟨b, o, none⟩ → b ≠ X ∧ w.heap.size + 1 < b) ∧ Hid (w.heap.size + 1 < X) ∧ Hid (Ext ((w.alloc (.cells #[.int .u8 kind, .int .u32 ao, .int .u32 av, .int .u8 old, .slice ba lb.length bc, .slice aa la.length ac, .slice ra rs.length rc, .int .u8 fl] 85)).alloc (.cells #[.int .u8 0, .int .u32 0, .int .u32 0, .int .u8 0, .slice none 0 0, .slice none 0 0, .slice none 0 0, .int .u8 0] 103)) wx))
  case first =>
    go_region_held3 (fun w' => Ext (((w.alloc (.cells #[.int .u8 kind, .int .u32 ao, .int .u32 av, .int .u8 old, .slice ba lb.length bc, .slice aa la.length ac, .slice ra rs.length rc, .int .u8 fl] 85)).alloc (.cells #[.int .u8 0, .int .u32 0, .int .u32 0, .int .u8 0, .slice none 0 0, .slice none 0 0, .slice none 0 0, .int .u8 0] 103))) w' ∧ (∀ b o, b < (((w.alloc (.cells #[.int .u8 kind, .int .u32 ao, .int .u32 av, .int .u8 old, .slice ba lb.length bc, .slice aa la.length ac, .slice ra rs.length rc, .int .u8 fl] 85)).alloc (.cells #[.int .u8 0, .int .u32 0, .int .u32 0, .int .u8 0, .slice none 0 0, .slice none 0 0, .slice none 0 0, .int .u8 0] 103))).heap.size → w'.cell? ⟨b, o, none⟩ = (((w.alloc (.cells #[.int .u8 kind, .int .u32 ao, .int .u32 av, .int .u8 old, .slice ba lb.length bc, .slice aa la.length ac, .slice ra rs.length rc, .int .u8 fl] 85)).alloc (.cells #[.int .u8 0, .int .u32 0, .int .u32 0, .int .u8 0, .slice none 0 0, .slice none 0 0, .slice none 0 0, .int .u8 0] 103))).cell? ⟨b, o, none⟩) ∧ (∀ b o, b < (((w.alloc (.cells #[.int .u8 kind, .int .u32 ao, .int .u32 av, .int .u8 old, .slice ba lb.length bc, .slice aa la.length ac, .slice ra rs.length rc, .int .u8 fl] 85)).alloc (.cells #[.int .u8 0, .int .u32 0, .int .u32 0, .int .u8 0, .slice none 0 0, .slice none 0 0, .slice none 0 0, .int .u8 0] 103))).heap.size → w'.frozen? ⟨b, o, none⟩ = (((w.alloc (.cells #[.int .u8 kind, .int .u32 ao, .int .u32 av, .int .u8 old, .slice ba lb.length bc, .slice aa la.length ac, .slice ra rs.length rc, .int .u8 fl] 85)).alloc (.cells #[.int .u8 0, .int .u32 0, .int .u32 0, .int .u8 0, .slice none 0 0, .slice none 0 0, .slice none 0 0, .int .u8 0] 103))).frozen? ⟨b, o, none⟩)) ((exact held_of (by exact eX)))
      (first
        | (go_at_call 22; refine (ref9_any _ _ _).mono ?_; rintro e w2 ⟨rfl, hb2⟩; obtain ⟨hc2, hf2⟩ := hb2.cells; have hz2 := hb2.size; (try simp at hz2); have q2 : w.heap.size + 1 < w2.heap.size := (by omega); (try have p2 : w.heap.size + 1 + 1 < w2.heap.size := (by omega)))
        | (go_at_call_of 24 (Value.slice ba lb.length bc); refine (HOB.out _ (by exact eX)).mono ?_; rintro e w3 ⟨b1, c1, rfl, -, hs3, hb3⟩; have H3 := Hid.mk' hs3; clear hs3; obtain ⟨hc3, hf3⟩ := hb3.cells; have hz3 := hb3.size; (try simp at hz3); have q3 : w.heap.size + 1 < w3.heap.size := (by omega); (try have q23 : w2.heap.size < w3.heap.size := (by omega)); (try have p3 : w.heap.size + 1 + 1 < w3.heap.size := (by omega)))
        | (go_at_call_of 24 (Value.slice aa la.length ac); refine (HOA.out _ (by exact eX)).mono ?_; rintro e w4 ⟨a1, d1, rfl, -, hs4, hb4⟩; have H4 := Hid.mk' hs4; clear hs4; obtain ⟨hc4, hf4⟩ := hb4.cells; have hz4 := hb4.size; (try simp at hz4); have q4 : w.heap.size + 1 < w4.heap.size := (by omega); (try have p4 : w.heap.size + 1 + 1 < w4.heap.size := (by omega)); (try have q24 : w2.heap.size < w4.heap.size := (by omega)); (try have q35 : w3.heap.size < w4.heap.size := (by omega))))
    all_goals
      go_wp2
      go_meet
      case rel =>
        refine ⟨_, b1, c1, a1, d1, rfl, Hid.mk' ?_, Hid.mk' ?_, Hid.mk' ?_, Hid.mk' ?_, Hid.mk' ?_, Hid.mk' ?_, Hid.mk' ?_⟩
        · repeat (with_reducible (first | exact Blk.new _ _ _ | (refine Blk.new' _ _ ?_; (simp; done)) | apply Blk.eight | refine Blk.alloc ?_ _ | refine Blk.drew ?_ | refine Blk.ext ?_ hb4 | refine Blk.ext ?_ hb3 | refine Blk.ext ?_ hb2))
        · first | ((with_reducible refine Fr.sl (Fr.eight (Fr.ext H3.out ?_) ?_)); (· exact eX); (· first | (simp; done) | (simp; omega) | omega | (left; simp; done) | (left; simp; omega) | (right; simp; done) | (right; simp; omega))) | ((with_reducible refine Fr.sl (Fr.ext H3.out ?_)); · exact eX)
        · first | ((with_reducible refine Fr.sl (Fr.eight (Fr.ext H4.out ?_) ?_)); (· exact eX); (· first | (simp; done) | (simp; omega) | omega | (left; simp; done) | (left; simp; omega) | (right; simp; done) | (right; simp; omega))) | ((with_reducible refine Fr.sl (Fr.ext H4.out ?_)); · exact eX)
        · refine fun h0 => Fr.ne2 H3.out ?_ ?_ h0; (· first | (simp; done) | (simp; omega) | omega | (left; simp; done) | (left; simp; omega) | (right; simp; done) | (right; simp; omega)); (· first | omega | (simp; omega) | simp)
        · refine fun h0 => Fr.ne2 H4.out ?_ ?_ h0; (· first | (simp; done) | (simp; omega) | omega | (left; simp; done) | (left; simp; omega) | (right; simp; done) | (right; simp; omega)); (· first | omega | (simp; omega) | simp)
        · first | omega | (simp; omega) | simp
        · first | exact eX | (repeat (with_reducible refine Ext.setCell ?_ (by first | (simp; done) | (simp; omega) | omega) _); exact eX)
  case rest =>
    obtain ⟨X, b1, c1, a1, d1, rfl, HX, HSB, HSA, HNB, HNA, HWX, HE⟩ := hcut
    have HEc := Hid.mk' (show Ext w wc from (((Ext.refl w).alloc _).alloc _).trans HE.out)
    have HB1 := Hid.mk' (((Blk.new w #[.int .u8 kind, .int .u32 ao, .int .u32 av, .int .u8 old, .slice ba lb.length bc, .slice aa la.length ac, .slice ra rs.length rc, .int .u8 fl] 85).alloc (.cells #[.int .u8 0, .int .u32 0, .int .u32 0, .int .u8 0, .slice none 0 0, .slice none 0 0, .slice none 0 0, .int .u8 0] 103)).ext HE.out)
    have HB2 := Hid.mk' ((Blk.new' (w := w.alloc (.cells #[.int .u8 kind, .int .u32 ao, .int .u32 av, .int .u8 old, .slice ba lb.length bc, .slice aa la.length ac, .slice ra rs.length rc, .int .u8 fl] 85)) (b := w.heap.size + 1) #[.int .u8 0, .int .u32 0, .int .u32 0, .int .u8 0, .slice none 0 0, .slice none 0 0, .slice none 0 0, .int .u8 0] 103 (by simp)).ext HE.out)
    clear HOB HOA
    have hzX : X < wc.heap.size := HX.out.lt
    have hzw : w.heap.size < X := by have := HWX.out; omega
    have HZX := Hid.mk' (And.intro hzX hzw)
    clear HE
    go_wp2
    go_loopw [4] (fun i wr => ∃ (k : Nat) (va : Option Addr) (vc : Nat), k ≤ rs.length ∧ i = .int .i64 k ∧ Hid (Blk wr X #[.int .u8 kind, .int .u32 ao, .int .u32 av, .int .u8 old, .slice b1 lb.length c1, .slice a1 la.length d1, .slice va k vc, .int .u8 fl] 103) ∧ Hid (wr.ownsRow wc.heap.size 68 2 (.slice va k vc) k ((rs.take k).map Rf.cells).flatten) ∧ Hid (Kp (fun x => x = X) wc wr)) (fun i _ => rs.length - (intOf i).toNat)
    case atStart => exact ⟨0, none, 0, Nat.zero_le _, rfl, HX, Hid.mk' (World.ownsRow_nil _ _ _ _), Hid.mk' Kp.refl⟩
    case round =>
      obtain ⟨k, va, vc, hk, rfl, hX, hown, hK⟩ := hrel
      have HEW : Hid (Ext w wr) := Hid.mk' (Kp.ext HEc.out (fun x hx _ => by have := HZX.out.2; omega) hK.out)
      have HG1 : Hid (Blk wr w.heap.size #[.int .u8 kind, .int .u32 ao, .int .u32 av, .int .u8 old, .slice ba lb.length bc, .slice aa la.length ac, .slice ra rs.length rc, .int .u8 fl] 85) := Hid.mk' (HB1.out.kp hK.out (by have := HZX.out.2; omega))
      have g1 := HG1.out.cell
      have z1 := HG1.out.lt
      have gX := hX.out.cell
      have gXf := hX.out.frozen
      have zX := hX.out.lt
      have hzc := hK.out.size
      by_cases hlt : k < rs.length
      · obtain ⟨b, o, rfl, hb, hx⟩ := HR.out.at_ (i := k) (by simpa using hlt)
        have HF := Hid.mk' (fun W (h : Ext w W) => Rf.at_ hlt hx hb h)
        have HT : Hid (rs.take (k + 1) = rs.take k ++ [rs[k]]) := Hid.mk' (List.take_succ_eq_append_getElem hlt)
        obtain ⟨r, hr⟩ : ∃ r, r = rs[k] := ⟨_, rfl⟩
        rw [← hr] at HF HT
        have HLT : Hid (k < rs.length) := Hid.mk' hlt
        have HBW : Hid (b < w.heap.size) := Hid.mk' hb
        clear hx hr hb
        have HS : Hid (∀ w', Kp (fun x => wc.heap.size ≤ x) wr w' → (∀ j, w'.cell? ⟨w.heap.size, j, none⟩ = (#[.int .u8 kind, .int .u32 ao, .int .u32 av, .int .u8 old, .slice ba lb.length bc, .slice aa la.length ac, .slice (some ⟨b, o, none⟩) rs.length rc, .int .u8 fl])[j]?) ∧ (∀ j, w'.cell? ⟨X, j, none⟩ = (#[.int .u8 kind, .int .u32 ao, .int .u32 av, .int .u8 old, .slice b1 lb.length c1, .slice a1 la.length d1, .slice va k vc, .int .u8 fl])[j]?) ∧ (∀ j, w'.frozen? ⟨X, j, none⟩ = false) ∧ w'.cell? ⟨b, o + k * 2, none⟩ = some (.int .u32 r.o) ∧ w'.cell? ⟨b, o + k * 2 + 1, none⟩ = some (.int .u32 r.v) ∧ b < w'.heap.size ∧ X < w'.heap.size ∧ w.heap.size < w'.heap.size) := Hid.mk' (fun w' h => by
          have hE : Ext w w' := Kp.ext HEc.out (S := fun x => x = X ∨ wc.heap.size ≤ x) (fun x hx _ => by have := HZX.out; omega) ((hK.out.mono (T := fun x => x = X ∨ wc.heap.size ≤ x) (fun x hx _ => .inl hx)).trans h (fun x hx _ => .inr hx))
          have h1 := HG1.out.kp h (by have := HZX.out; omega)
          have h2 := hX.out.kp h (by have := HZX.out; omega)
          obtain ⟨f0, f1⟩ := HF.out w' hE
          exact ⟨h1.cell, h2.cell, h2.frozen, f0, f1, Nat.lt_of_lt_of_le HBW.out hE.size, h2.lt, h1.lt⟩)
        have HOWN := hown
        go_wp2
        clear g1 gX gXf
        have hA0 : Hid ((fun w' => (∀ j, w'.cell? ⟨w.heap.size, j, none⟩ = (#[.int .u8 kind, .int .u32 ao, .int .u32 av, .int .u8 old, .slice ba lb.length bc, .slice aa la.length ac, .slice (some ⟨b, o, none⟩) rs.length rc, .int .u8 fl])[j]?) ∧ (∀ j, w'.cell? ⟨X, j, none⟩ = (#[.int .u8 kind, .int .u32 ao, .int .u32 av, .int .u8 old, .slice b1 lb.length c1, .slice a1 la.length d1, .slice va k vc, .int .u8 fl])[j]?) ∧ (∀ j, w'.frozen? ⟨X, j, none⟩ = false) ∧ w'.cell? ⟨b, o + k * 2, none⟩ = some (.int .u32 r.o) ∧ w'.cell? ⟨b, o + k * 2 + 1, none⟩ = some (.int .u32 r.v) ∧ b < w'.heap.size ∧ X < w'.heap.size ∧ w.heap.size < w'.heap.size) wr.drew) := Hid.mk' (HS.out _ (Kp.of_ext (Ext.refl wr).drew))
        refine wp_region_head 10 (fun w' => (∀ j, w'.cell? ⟨w.heap.size, j, none⟩ = (#[.int .u8 kind, .int .u32 ao, .int .u32 av, .int .u8 old, .slice ba lb.length bc, .slice aa la.length ac, .slice (some ⟨b, o, none⟩) rs.length rc, .int .u8 fl])[j]?) ∧ (∀ j, w'.cell? ⟨X, j, none⟩ = (#[.int .u8 kind, .int .u32 ao, .int .u32 av, .int .u8 old, .slice b1 lb.length c1, .slice a1 la.length d1, .slice va k vc, .int .u8 fl])[j]?) ∧ (∀ j, w'.frozen? ⟨X, j, none⟩ = false) ∧ w'.cell? ⟨b, o + k * 2, none⟩ = some (.int .u32 r.o) ∧ w'.cell? ⟨b, o + k * 2 + 1, none⟩ = some (.int .u32 r.v) ∧ b < w'.heap.size ∧ X < w'.heap.size ∧ w.heap.size < w'.heap.size) (by kernel_rfl) (by decide) ?_
        (refine wpHd_take (i := 0) (v := ?_) rfl (by kernel_rfl) (by kernel_rfl) (by kernel_rfl) (fun _ _ _ h => h) (Or.inl ⟨by rfl, ?_⟩) hA0.out ?_; rotate_left 1; · (intro w' hS'; (try dsimp only at hS'); go_split_ands; go_simp; try with_reducible rfl))
        (refine wpHd_take (i := 1) (v := ?_) rfl (by kernel_rfl) (by kernel_rfl) (by kernel_rfl) (fun _ _ _ h => h) (Or.inl ⟨by rfl, ?_⟩) hA0.out ?_; rotate_left 1; · (intro w' hS'; (try dsimp only at hS'); go_split_ands; go_simp; try with_reducible rfl))
        (refine wpHd_take (i := 2) (v := ?_) rfl (by kernel_rfl) (by kernel_rfl) (by kernel_rfl) (fun _ _ _ h => h) (Or.inl ⟨by rfl, ?_⟩) hA0.out ?_; rotate_left 1; · (intro w' hS'; (try dsimp only at hS'); go_split_ands; go_simp; try with_reducible rfl))
        (refine wpHd_take (i := 3) (v := ?_) rfl (by kernel_rfl) (by kernel_rfl) (by kernel_rfl) (fun _ _ _ h => h) (Or.inl ⟨by rfl, ?_⟩) hA0.out ?_; rotate_left 1; · (intro w' hS'; (try dsimp only at hS'); go_split_ands; go_simp; try with_reducible rfl))
        (refine wpHd_take (i := 4) (v := ?_) rfl (by kernel_rfl) (by kernel_rfl) (by kernel_rfl) (fun _ _ _ h => h) (Or.inl ⟨by rfl, ?_⟩) hA0.out ?_; rotate_left 1; · (intro w' hS'; (try dsimp only at hS'); go_split_ands; go_simp; try with_reducible rfl))
        (refine wpHd_take (i := 5) (v := ?_) rfl (by kernel_rfl) (by kernel_rfl) (by kernel_rfl) (fun _ _ _ h => h) (Or.inl ⟨by rfl, ?_⟩) hA0.out ?_; rotate_left 1; · (intro w' hS'; (try dsimp only at hS'); go_split_ands; go_simp; try with_reducible rfl))
        (refine wpHd_take (i := 6) (v := ?_) rfl (by kernel_rfl) (by kernel_rfl) (by kernel_rfl) (fun _ _ _ h => h) (Or.inl ⟨by rfl, ?_⟩) hA0.out ?_; rotate_left 1; · (intro w' hS'; (try dsimp only at hS'); go_split_ands; go_simp; try with_reducible rfl))
        refine wpHd_one (i := 7) rfl rfl (by kernel_rfl) (fun K hK => ?_)
        go_simp
        refine (ref9_any _ _ _).mono ?_
        rintro e w7 ⟨rfl, hb7⟩
        have HB7 : Hid (Ext wr w7) := Hid.mk' ((Ext.refl wr).drew.trans hb7)
        refine hK.out _ _ (HS.out _ (Kp.of_ext HB7.out)) (fun hA => ?_)
        clear hK K hA hA0 hb7
        refine wpHd_one (i := 8) rfl rfl (by kernel_rfl) (fun K hK => ?_)
        go_simp
        refine hK.out _ _ (HS.out _ (Kp.of_ext (HB7.out.alloc _))) (fun hA => ?_)
        clear hK K hA
        refine wpHd_one (i := 9) rfl rfl (by kernel_rfl) (fun K hK => ?_)
        refine wp_append_lies _ _ _ 101 (by rfl) wc.heap.size 68 i0 _ 2 8 Tryz.underlying101 hi hz0 hz1 hz2 rfl (by decide) (.slice va k vc) k _ (by rfl) (owns_ext HOWN.out (HB7.out.alloc _)) ⟨_, 0, none⟩ 1 1 r.cells (by rfl) rfl (cells_new _ #[.int .u32 r.o, .int .u32 r.v] _) (by intro u hu; simp [Rf.cells] at hu; rcases hu with rfl | rfl <;> rfl) (by decide) (by unfold maxLen; omega) (by omega) (by have := HB7.out.size; simp; omega) _ rfl ?_
        intro g4 cap4 w4 hown4 hgrow4 hat4 hlt4
        have HO4 := Hid.mk' hown4
        have HKG : Hid (Kp (fun x => wc.heap.size ≤ x) wr w4) := Hid.mk' ((Kp.of_ext (S := fun x => wc.heap.size ≤ x) (HB7.out.alloc _)).trans (Kp.of_grown hgrow4) (fun x hx _ => (HOWN.out.lt x hx).1))
        refine hK.out _ _ (HS.out _ HKG.out) (fun hA => ?_)
        clear hK K hA hown4 hgrow4 hat4 hlt4
        have hX4 : Hid (Blk w4 X #[.int .u8 kind, .int .u32 ao, .int .u32 av, .int .u8 old, .slice b1 lb.length c1, .slice a1 la.length d1, .slice va k vc, .int .u8 fl] 103) := Hid.mk' (hX.out.kp HKG.out (by have := HZX.out; omega))
        have gX := hX4.out.cell
        have gXf := hX4.out.frozen
        have zX := hX4.out.lt
        refine wpHd_tail (by kernel_rfl) ?_
        simp only [List.drop_succ_cons, List.drop_zero]
        go_wp2
        go_roundw
        case rel =>
          refine ⟨k + 1, some ⟨g4, 0, none⟩, cap4, by have := HLT.out; omega, by go_num, Hid.mk' ?_, Hid.mk' ?_, Hid.mk' ?_⟩
          · have := hX4.out.set 6 (.slice (some ⟨g4, 0, none⟩) (k + 1) cap4)
            simpa only [List.setIfInBounds_toArray, List.set_cons_zero, List.set_cons_succ] using this
          · rw [HT.out, List.map_append, List.flatten_append]
            exact owns_set (by simpa using HO4.out) (by show X < _; have := HZX.out; omega) _
          · exact ((hK.out.mono (T := fun x => x = X) (fun x hx _ => hx)).trans (HKG.out) (fun x hx h => by omega)).trans (T := fun x => x = X) (Kp.set _ _ rfl) (fun x hx _ => hx)
        case measure => have := HLT.out; simp [intOf]; omega
      · obtain rfl : k = rs.length := by omega
        rw [List.take_length] at hown
        have HB2r : Hid (Blk wr (w.heap.size + 1) #[.int .u8 0, .int .u32 0, .int .u32 0, .int .u8 0, .slice none 0 0, .slice none 0 0, .slice none 0 0, .int .u8 0] 103) := Hid.mk' (HB2.out.kp hK.out (by have := HWX.out; omega))
        have k2 := HB2r.out.cell
        have k2f := HB2r.out.frozen
        have z2 := HB2r.out.lt
        go_wp2
        simp [bodyPost, results, Tryz.results36, go_sem, *]
        have hwr := HZX.out
        have hw2 := HWX.out
        have hSB : Sl wr (.slice b1 lb.length c1) 5 (lb.map K.pc) := Sl.kp HSB.out hK.out (fun h0 b o e => (HNB.out h0 b o e).1)
        have hSA : Sl wr (.slice a1 la.length d1) 5 (la.map K.pc) := Sl.kp HSA.out hK.out (fun h0 b o e => (HNA.out h0 b o e).1)
        have hSR : Sl wr (.slice va rs.length vc) 2 (rs.map Rf.cells) := Sl.of_owns (base := wc.heap.size) (e := 68) (by rw [List.length_map]; exact hown.out) (by intro xs hxs; simp at hxs; obtain ⟨_, _, rfl⟩ := hxs; rfl)
        refine ⟨b1, c1, a1, d1, va, vc, ⟨⟨rfl, rfl⟩, ⟨rfl, rfl⟩, rfl, rfl⟩, ⟨Sl.kp hSB Kp.eight (fun h0 b o e => by have := (HNB.out h0 b o e).2; omega), Sl.kp hSA Kp.eight (fun h0 b o e => by have := (HNA.out h0 b o e).2; omega), Sl.kp hSR Kp.eight (fun h0 b o e => by have := hown.out.lt b (by rw [show va = some ⟨b, o, none⟩ from e]; rfl); omega)⟩, ⟨fun h0 b o e => by have := (HNB.out (fun q => h0 (by simpa using q)) b o e).2; omega, fun h0 b o e => by have := (HNA.out (fun q => h0 (by simpa using q)) b o e).2; omega, fun h0 b o e => by have := hown.out.lt b (by rw [show va = some ⟨b, o, none⟩ from e]; rfl); omega⟩, Kp.ext HEW.out (fun x hx _ => by omega) Kp.eight⟩

theorem eown_el (x : EL) (w : World) (hx : x.at 6 K.rc w) (hnb : x.e.b.length ≤ 1000) (hna : x.e.a.length ≤ 1000) (hnr : x.e.rs.length ≤ 1000) :
    Calls Tryz.prog 36 #[x.agg] w fun e w' => ∃ y : EL, e = .returned y.agg ∧ y.e = x.e ∧ y.at 5 K.pc w' ∧ y.on (fun b => w.heap.size ≤ b) ∧ Ext w w' := by
  obtain ⟨⟨kind, ao, av, old, lb, la, rs, fl⟩, ba, bc, aa, ac, ra, rc⟩ := x
  refine (eown_any kind ao av old lb la rs fl ba aa ra bc ac rc w hx.b hx.a hx.r hnb hna hnr).mono fun e w' h => ?_
  obtain ⟨b1, c1, a1, d1, r1, e1, h1, h2, h3, h4⟩ := h
  exact ⟨⟨⟨kind, ao, av, old, lb, la, rs, fl⟩, b1, c1, a1, d1, r1, e1⟩, h1, rfl, h2, h3, h4⟩

end Go.Proofs.YtdgalkljngigeaaGreat


/-
Whether two relations are the same, two lists of them: the program's, the reference's.
-/
namespace Go.Proofs.YtdgalkljngigeaaGreat
open Go.RowKit

theorem str_beq2 (s t : ByteArray) : (s.toList == t.toList) = decide (s = t) := by
  by_cases h : s = t
  · subst h; simp
  · rw [decide_eq_false h, beq_eq_false_iff_ne]
    exact fun e => h (toList_inj' e)
noncomputable def colB (c d : Col) : Bool := @decide (c = d) (Classical.propDecidable _)
noncomputable def colsB (l m : List Col) : Bool := @decide (l = m) (Classical.propDecidable _)
noncomputable def rlB (a b : Rl) : Bool := @decide (a = b) (Classical.propDecidable _)
noncomputable def rlsB (a b : List Rl) : Bool := @decide (a = b) (Classical.propDecidable _)
theorem colB_true {c d : Col} : colB c d = true ↔ c = d := by unfold colB; simp
theorem colsB_true {l m : List Col} : colsB l m = true ↔ l = m := by unfold colsB; simp
theorem colsB_false {l m : List Col} : colsB l m = false ↔ l ≠ m := by unfold colsB; simp
theorem rlB_true {a b : Rl} : rlB a b = true ↔ a = b := by unfold rlB; simp
theorem rlB_false {a b : Rl} : rlB a b = false ↔ a ≠ b := by unfold rlB; simp
theorem rlsB_true {a b : List Rl} : rlsB a b = true ↔ a = b := by unfold rlsB; simp
theorem rlsB_false {a b : List Rl} : rlsB a b = false ↔ a ≠ b := by unfold rlsB; simp
theorem colB_iff {c d : Col} : c = d ↔ c.nm = d.nm ∧ c.ty = d.ty ∧ c.key = d.key := by
  constructor
  · rintro rfl; exact ⟨rfl, rfl, rfl⟩
  · obtain ⟨a, b, k⟩ := c; obtain ⟨a', b', k'⟩ := d
    rintro ⟨h1, h2, h3⟩
    simp only at h1 h2 h3
    rw [h1, h2, h3]

set_option maxRecDepth 100000 in set_option maxHeartbeats 1600000 in
theorem neq_pcol (c d : Col) (w : World) : (binOp .neq 115 (.agg #[.string c.nm, .int .u8 c.ty, .bool c.key]) (.agg #[.string d.nm, .int .u8 d.ty, .bool d.key])).run Tryz.prog w = .ok (.bool (!colB c d)) w := by
  have hb : colB c d = @decide (c.nm = d.nm ∧ c.ty = d.ty ∧ c.key = d.key) (Classical.propDecidable _) := by
    unfold colB; exact decide_eq_decide.2 colB_iff
  rw [hb]
  clear hb
  by_cases h0 : c.nm = d.nm <;> by_cases h1 : c.ty = d.ty <;> by_cases h2 : c.key = d.key <;> simp [go_sem, h0, h1, h2]
  all_goals first
    | (intro h; exact absurd (toList_inj' h) h0)
    | omega
    | (intros; omega)
    | (intros; intro h; exact absurd (toList_inj' h) h0)
    | (intros; exact h2)
    | exact h2
    | (apply decide_eq_decide.2; simp [h0, h1, h2])
    | (congr)
set_option maxRecDepth 100000 in set_option maxHeartbeats 1600000 in
theorem neq_rcol (c d : Col) (w : World) : (binOp .neq 129 (.agg #[.string c.nm, .int .u8 c.ty, .bool c.key]) (.agg #[.string d.nm, .int .u8 d.ty, .bool d.key])).run Tryz.prog w = .ok (.bool (!colB c d)) w := by
  have hb : colB c d = @decide (c.nm = d.nm ∧ c.ty = d.ty ∧ c.key = d.key) (Classical.propDecidable _) := by
    unfold colB; exact decide_eq_decide.2 colB_iff
  rw [hb]
  clear hb
  by_cases h0 : c.nm = d.nm <;> by_cases h1 : c.ty = d.ty <;> by_cases h2 : c.key = d.key <;> simp [go_sem, h0, h1, h2]
  all_goals first
    | (intro h; exact absurd (toList_inj' h) h0)
    | omega
    | (intros; omega)
    | (intros; intro h; exact absurd (toList_inj' h) h0)
    | (intros; exact h2)
    | exact h2
    | (apply decide_eq_decide.2; simp [h0, h1, h2])
    | (congr)

/-- How two relations part, in the order of the text. -/
theorem rl_cases (a b : Rl) : (a.oid ≠ b.oid ∧ rlB a b = false) ∨ (a.oid = b.oid ∧ a.ver ≠ b.ver ∧ rlB a b = false) ∨ (a.oid = b.oid ∧ a.ver = b.ver ∧ a.nm ≠ b.nm ∧ rlB a b = false) ∨ (a.oid = b.oid ∧ a.ver = b.ver ∧ a.nm = b.nm ∧ a.id ≠ b.id ∧ rlB a b = false) ∨ (a.oid = b.oid ∧ a.ver = b.ver ∧ a.nm = b.nm ∧ a.id = b.id ∧ rlB a b = colsB a.cols b.cols) := by
  by_cases h1 : a.oid = b.oid
  · by_cases h2 : a.ver = b.ver
    · by_cases h3 : a.nm = b.nm
      · by_cases h4 : a.id = b.id
        · refine .inr (.inr (.inr (.inr ⟨h1, h2, h3, h4, ?_⟩)))
          obtain ⟨o, v, n, i, c⟩ := a
          obtain ⟨o', v', n', i', c'⟩ := b
          simp only at h1 h2 h3 h4
          subst h1; subst h2; subst h3; subst h4
          by_cases h5 : c = c'
          · subst h5; rw [rlB_true.2 rfl, colsB_true.2 rfl]
          · rw [rlB_false.2 (fun e => h5 (by injection e)), colsB_false.2 h5]
        · exact .inr (.inr (.inr (.inl ⟨h1, h2, h3, h4, rlB_false.2 (fun e => h4 (by rw [e]))⟩)))
      · exact .inr (.inr (.inl ⟨h1, h2, h3, rlB_false.2 (fun e => h3 (by rw [e]))⟩))
    · exact .inr (.inl ⟨h1, h2, rlB_false.2 (fun e => h2 (by rw [e]))⟩)
  · exact .inl ⟨h1, rlB_false.2 (fun e => h1 (by rw [e]))⟩

end Go.Proofs.YtdgalkljngigeaaGreat


/-
Whether two events are alike, the program's and the reference's; slices.Equal and slices.Clone of refs.
-/
namespace Go.Proofs.YtdgalkljngigeaaGreat
open Go.RowKit

theorem Tryz.infoRfQ : (Tryz.prog.info? 68).map (fun i => (i.zero, i.size, i.bytes)) = some (some (.agg #[.int .u32 0, .int .u32 0]), 2, 8) := by kernel_rfl
noncomputable def rfB (c d : Rf) : Bool := @decide (c = d) (Classical.propDecidable _)
noncomputable def rfsB (l m : List Rf) : Bool := @decide (l = m) (Classical.propDecidable _)
noncomputable def evB (l m : Ev) : Bool := @decide (l = m) (Classical.propDecidable _)
theorem rfB_true {c d : Rf} : rfB c d = true ↔ c = d := by unfold rfB; simp
theorem rfB_false {c d : Rf} : rfB c d = false ↔ c ≠ d := by unfold rfB; simp
theorem rfsB_true {l m : List Rf} : rfsB l m = true ↔ l = m := by unfold rfsB; simp
theorem rfsB_false {l m : List Rf} : rfsB l m = false ↔ l ≠ m := by unfold rfsB; simp
theorem evB_true {l m : Ev} : evB l m = true ↔ l = m := by unfold evB; simp
theorem evB_false {l m : Ev} : evB l m = false ↔ l ≠ m := by unfold evB; simp
theorem rfB_iff {c d : Rf} : c = d ↔ c.o = d.o ∧ c.v = d.v := by
  constructor
  · rintro rfl; exact ⟨rfl, rfl⟩
  · obtain ⟨a, b⟩ := c; obtain ⟨a', b'⟩ := d
    rintro ⟨h1, h2⟩
    simp only at h1 h2
    rw [h1, h2]
theorem rfB_eq (a b c d : Int) : rfB ⟨a, b⟩ ⟨c, d⟩ = decide (a = c ∧ b = d) := by
  unfold rfB
  by_cases h : a = c ∧ b = d
  · rw [decide_eq_true h]; obtain ⟨rfl, rfl⟩ := h; simp
  · rw [decide_eq_false h]; simp only [Rf.mk.injEq]; rw [decide_eq_false_iff_not]; exact h

set_option maxRecDepth 100000 in set_option maxHeartbeats 1600000 in
theorem neq_pref (a b c d : Int) (w : World) : (binOp .neq 68 (.agg #[.int .u32 a, .int .u32 b]) (.agg #[.int .u32 c, .int .u32 d])).run Tryz.prog w = .ok (.bool (!rfB ⟨a, b⟩ ⟨c, d⟩)) w := by
  rw [rfB_eq]
  by_cases h0 : a = c <;> by_cases h1 : b = d <;> simp [go_sem, h0, h1]
set_option maxRecDepth 100000 in set_option maxHeartbeats 1600000 in
theorem eql_pref (a b c d : Int) (w : World) : (binOp .eql 68 (.agg #[.int .u32 a, .int .u32 b]) (.agg #[.int .u32 c, .int .u32 d])).run Tryz.prog w = .ok (.bool (rfB ⟨a, b⟩ ⟨c, d⟩)) w := by
  rw [rfB_eq]
  by_cases h0 : a = c <;> by_cases h1 : b = d <;> simp [go_sem, h0, h1]
set_option maxRecDepth 100000 in set_option maxHeartbeats 1600000 in
theorem neq_rref (a b c d : Int) (w : World) : (binOp .neq 44 (.agg #[.int .u32 a, .int .u32 b]) (.agg #[.int .u32 c, .int .u32 d])).run Tryz.prog w = .ok (.bool (!rfB ⟨a, b⟩ ⟨c, d⟩)) w := by
  rw [rfB_eq]
  by_cases h0 : a = c <;> by_cases h1 : b = d <;> simp [go_sem, h0, h1]

set_option maxRecDepth 100000 in set_option maxHeartbeats 2000000 in
theorem eqrefs_any (l m : List Rf) (a b : Option Addr) (ca cb : Nat) (w : World) (hl : Sl w (.slice a l.length ca) 2 (l.map Rf.cells)) (hm : Sl w (.slice b m.length cb) 2 (m.map Rf.cells)) (hlen : l.length ≤ 100000) :
    Calls Tryz.prog 120 #[.slice a l.length ca, .slice b m.length cb] w fun e w' => e = .returned (.bool (rfsB l m)) ∧ Ext w w' := by
  have HL := Hid.mk' hl
  have HM := Hid.mk' hm
  clear hl hm
  by_cases hn : l.length = m.length
  case neg =>
    have hn' : (((l.length : Nat) : Int) != ((m.length : Nat) : Int)) = true := by simp; omega
    have HR := Hid.mk' (show rfsB l m = false from rfsB_false.2 (fun h => hn (by rw [h])))
    clear hn
    go_enter Tryz.func120, Tryz.ntmps120
    go_wp2
    go_ret
    exact ⟨ret_bool HR.out.symm, by exact eX⟩
  have hn' : (((l.length : Nat) : Int) != ((m.length : Nat) : Int)) = false := by simp; omega
  have HN := Hid.mk' hn
  clear hn
  go_enter Tryz.func120, Tryz.ntmps120
  go_wp2
  go_loopw [13] (fun i wr => ∃ k : Nat, k ≤ l.length ∧ i = .int .i64 k ∧ Hid (∀ j (h1 : j < l.length) (h2 : j < m.length), j < k → l[j] = m[j]) ∧ Hid (Ext w wr)) (fun i _ => l.length - (intOf i).toNat)
  case atStart => exact ⟨0, Nat.zero_le _, rfl, fun j _ _ h => by omega, Ext.refl _⟩
  case round =>
    obtain ⟨k, hk, rfl, hrel, hE⟩ := hrel
    by_cases hlt : k < l.length
    · have hlt2 : k < m.length := by have := HN.out; omega
      obtain ⟨b1, o1, rfl, hb1, hx1⟩ := HL.out.at_ (i := k) (by simpa using hlt)
      obtain ⟨f0, f1⟩ := Rf.at_ hlt hx1 hb1 hE.out
      obtain ⟨b2, o2, rfl, hb2, hx2⟩ := HM.out.at_ (i := k) (by simpa using hlt2)
      obtain ⟨p0, p1⟩ := Rf.at_ hlt2 hx2 hb2 hE.out
      have hbw : b1 < wr.heap.size := Nat.lt_of_lt_of_le hb1 hE.out.size
      have hbw2 : b2 < wr.heap.size := Nat.lt_of_lt_of_le hb2 hE.out.size
      have hNq := fun w => neq_pref l[k].o l[k].v m[k].o m[k].v w
      cases hA : rfB ⟨l[k].o, l[k].v⟩ ⟨m[k].o, m[k].v⟩ with
      | true =>
        rw [hA] at hNq
        have HA := Hid.mk' (rfB_true.1 hA)
        clear hA hx1 hx2
        go_wp2
        go_region_held3 (fun w' => Ext (wr) w' ∧ (∀ b o, b < (wr).heap.size → w'.cell? ⟨b, o, none⟩ = (wr).cell? ⟨b, o, none⟩) ∧ (∀ b o, b < (wr).heap.size → w'.frozen? ⟨b, o, none⟩ = (wr).frozen? ⟨b, o, none⟩)) ((exact held_of (by exact eX))) (fail)
        go_wp2
        go_roundw
        case rel => exact ⟨k + 1, by omega, by go_num, fun j h1 h2 hjk => by
          by_cases e : j = k
          · subst e; exact HA.out
          · exact hrel.out j h1 h2 (by omega), Hid.mk' (hE.out.trans (by exact eX))⟩
        case measure => simp [intOf]; omega
      | false =>
        rw [hA] at hNq
        have HR := Hid.mk' (show rfsB l m = false from rfsB_false.2 (fun h => rfB_false.1 hA (by subst h; rfl)))
        clear hA hx1 hx2
        go_wp2
        go_region_held3 (fun w' => Ext (wr) w' ∧ (∀ b o, b < (wr).heap.size → w'.cell? ⟨b, o, none⟩ = (wr).cell? ⟨b, o, none⟩) ∧ (∀ b o, b < (wr).heap.size → w'.frozen? ⟨b, o, none⟩ = (wr).frozen? ⟨b, o, none⟩)) ((exact held_of (by exact eX))) (fail)
        go_wp2
        go_ret
        exact ⟨ret_bool HR.out.symm, hE.out.trans (by exact eX)⟩
    · have hkk : k = l.length := by omega
      have HR := Hid.mk' (show rfsB l m = true from rfsB_true.2 (List.ext_getElem HN.out (fun i h1 h2 => hrel.out i h1 h2 (by omega))))
      subst hkk
      go_wp2
      go_ret
      exact ⟨ret_bool HR.out.symm, hE.out⟩

theorem flatR_len (l : List Rf) : (l.map Rf.cells).flatten.length = l.length * 2 := by
  have := flat_length 2 (l.map Rf.cells) (fun xs hxs => by simp at hxs; obtain ⟨c, _, rfl⟩ := hxs; rfl)
  rwa [List.length_map] at this
theorem news_ref {w : World} {b o : Nat} {l : List Rf} (h : ∀ i, i < l.length → ∀ j, j < 2 → w.cell? ⟨b, o + i * 2 + j, none⟩ = ((l.map Rf.cells).getD i [])[j]?) : ∀ j u, ((l.map Rf.cells).flatten)[j]? = some u → w.cell? ((⟨b, o, none⟩ : Addr).add j) = some u := by
  intro j u hj
  have hjl : j < l.length * 2 := by
    rcases Nat.lt_or_ge j (l.length * 2) with h | h
    · exact h
    · rw [List.getElem?_eq_none (by rw [flatR_len]; exact h)] at hj; cases hj
  have hplain : (⟨b, o, none⟩ : Addr).add j = ⟨b, o + j, none⟩ := by unfold Addr.add; split <;> simp_all
  have hi : j / 2 < l.length := by omega
  have hq := flat_get 2 (l.map Rf.cells) (fun xs hxs => by simp at hxs; obtain ⟨c, _, rfl⟩ := hxs; rfl) (j / 2) (by simpa using hi) (j % 2) (Nat.mod_lt _ (by decide))
  have hm : j / 2 * 2 + j % 2 = j := by omega
  rw [hm] at hq
  rw [hplain, ← hj, hq, ← h (j / 2) hi (j % 2) (Nat.mod_lt _ (by decide)), Nat.add_assoc, hm]

end Go.Proofs.YtdgalkljngigeaaGreat


/-
Whether two events are alike, the program's and the reference's.
-/
namespace Go.Proofs.YtdgalkljngigeaaGreat
open Go.RowKit

/-- Its rows and refs are not many. -/
structure Ev.small (e : Ev) : Prop where
  b : e.b.length ≤ 1000
  a : e.a.length ≤ 1000
  r : e.rs.length ≤ 1000

set_option maxRecDepth 100000 in set_option maxHeartbeats 4000000 in
theorem ealike_any (x y : EL) (w : World) (hx : x.at 5 K.pc w) (hy : y.at 5 K.pc w) (h1 : x.e.small) (h2 : y.e.small) :
    Calls Tryz.prog 106 #[x.agg, y.agg] w fun e w' => e = .returned (.bool (evB x.e y.e)) ∧ Ext w w' := by
  obtain ⟨⟨k1, ao1, av1, old1, b1, a1, r1, fl1⟩, ba1, bc1, aa1, ac1, ra1, rc1⟩ := x
  obtain ⟨⟨k2, ao2, av2, old2, b2, a2, r2, fl2⟩, ba2, bc2, aa2, ac2, ra2, rc2⟩ := y
  unfold EL.agg
  simp only
  have HB := Hid.mk' (fun W (h : Ext w W) => alike_any b1 b2 ba1 ba2 bc1 bc2 W (hx.b.ext h) (hy.b.ext h) h1.b h2.b)
  have HA := Hid.mk' (fun W (h : Ext w W) => alike_any a1 a2 aa1 aa2 ac1 ac2 W (hx.a.ext h) (hy.a.ext h) h1.a h2.a)
  have HF := Hid.mk' (fun W (h : Ext w W) => eqrefs_any r1 r2 ra1 ra2 rc1 rc2 W (hx.r.ext h) (hy.r.ext h) (by have := h1.r; simp only at this; omega))
  clear hx hy h1 h2
  by_cases q1 : k1 = k2
  case neg =>
    have HR := Hid.mk' (show evB (⟨k1, ao1, av1, old1, b1, a1, r1, fl1⟩ : Ev) (⟨k2, ao2, av2, old2, b2, a2, r2, fl2⟩ : Ev) = false from evB_false.2 (fun h => by injection h; contradiction))
    have q1' : (k1 == k2) = false := by simpa using q1
    clear q1
    go_enter Tryz.func106, Tryz.ntmps106
    go_wp2
    go_ret
    exact ⟨ret_bool HR.out.symm, by exact eX⟩
  by_cases q2 : rfB ⟨ao1, av1⟩ ⟨ao2, av2⟩ = true
  case neg =>
    have HR := Hid.mk' (show evB (⟨k1, ao1, av1, old1, b1, a1, r1, fl1⟩ : Ev) (⟨k2, ao2, av2, old2, b2, a2, r2, fl2⟩ : Ev) = false from evB_false.2 (fun h => by injection h with _ e1 e2; exact q2 (rfB_true.2 (by rw [e1, e2]))))
    have q2' : rfB ⟨ao1, av1⟩ ⟨ao2, av2⟩ = false := by simpa using q2
    have hQ := fun w => eql_pref ao1 av1 ao2 av2 w
    rw [q2'] at hQ
    clear q2 q2'
    subst q1
    go_enter Tryz.func106, Tryz.ntmps106
    go_wp2
    go_ret
    exact ⟨ret_bool HR.out.symm, by exact eX⟩
  have q2e := rfB_true.1 q2
  injection q2e with q3 q4
  clear q2
  subst q1 q3 q4
  by_cases q5 : old1 = old2
  case neg =>
    have HR := Hid.mk' (show evB (⟨k1, ao1, av1, old1, b1, a1, r1, fl1⟩ : Ev) (⟨k1, ao1, av1, old2, b2, a2, r2, fl2⟩ : Ev) = false from evB_false.2 (fun h => by injection h; contradiction))
    have q5' : (old1 == old2) = false := by simpa using q5
    clear q5
    go_enter Tryz.func106, Tryz.ntmps106
    go_wp2
    go_ret
    exact ⟨ret_bool HR.out.symm, by exact eX⟩
  subst q5
  by_cases q6 : fl1 = fl2
  case neg =>
    have HR := Hid.mk' (show evB (⟨k1, ao1, av1, old1, b1, a1, r1, fl1⟩ : Ev) (⟨k1, ao1, av1, old1, b2, a2, r2, fl2⟩ : Ev) = false from evB_false.2 (fun h => by injection h; contradiction))
    have q6' : (fl1 == fl2) = false := by simpa using q6
    clear q6
    go_enter Tryz.func106, Tryz.ntmps106
    go_wp2
    go_ret
    exact ⟨ret_bool HR.out.symm, by exact eX⟩
  subst q6
  cases hb : rowB b1 b2 with
  | false =>
    have HR := Hid.mk' (show evB (⟨k1, ao1, av1, old1, b1, a1, r1, fl1⟩ : Ev) (⟨k1, ao1, av1, old1, b2, a2, r2, fl1⟩ : Ev) = false from evB_false.2 (fun h => by injection h with _ _ _ _ e1; exact rowB_false.1 hb e1))
    rw [hb] at HB
    clear hb
    go_enter Tryz.func106, Tryz.ntmps106
    go_wp2_with (go_at_call 30; refine (HB.out _ (by exact eX)).mono ?_; rintro e w2 ⟨rfl, hb2⟩)
    go_ret
    exact ⟨ret_bool HR.out.symm, by exact eX⟩
  | true =>
  obtain rfl := rowB_true.1 hb
  rw [hb] at HB
  clear hb
  cases ha : rowB a1 a2 with
  | false =>
    have HR := Hid.mk' (show evB (⟨k1, ao1, av1, old1, b1, a1, r1, fl1⟩ : Ev) (⟨k1, ao1, av1, old1, b1, a2, r2, fl1⟩ : Ev) = false from evB_false.2 (fun h => by injection h with _ _ _ _ _ e1; exact rowB_false.1 ha e1))
    rw [ha] at HA
    clear ha
    go_enter Tryz.func106, Tryz.ntmps106
    go_wp2_with (first
      | (go_at_call_of 30 (Value.slice ba1 b1.length bc1); (with_reducible refine (HB.out _ (by exact eX)).mono ?_); rintro e w2 ⟨rfl, hb2⟩; have hE_w2 : Ext ((w.alloc (.cells #[.int .u8 k1, .int .u32 ao1, .int .u32 av1, .int .u8 old1, .slice ba1 b1.length bc1, .slice aa1 a1.length ac1, .slice ra1 r1.length rc1, .int .u8 fl1] 103)).alloc (.cells #[.int .u8 k1, .int .u32 ao1, .int .u32 av1, .int .u8 old1, .slice ba2 b1.length bc2, .slice aa2 a2.length ac2, .slice ra2 r2.length rc2, .int .u8 fl1] 103)) w2 := (by exact eX); obtain ⟨hc_w2, hf_w2⟩ := hE_w2.cells; have hz_w2 := hE_w2.size)
      | (go_at_call_of 30 (Value.slice aa1 a1.length ac1); refine (HA.out _ (by exact eX)).mono ?_; rintro e w3 ⟨rfl, hb3⟩))
    go_ret
    exact ⟨ret_bool HR.out.symm, by exact eX⟩
  | true =>
  obtain rfl := rowB_true.1 ha
  rw [ha] at HA
  clear ha
  have HR := Hid.mk' (show evB (⟨k1, ao1, av1, old1, b1, a1, r1, fl1⟩ : Ev) (⟨k1, ao1, av1, old1, b1, a1, r2, fl1⟩ : Ev) = rfsB r1 r2 from by
    unfold evB rfsB
    exact decide_eq_decide.2 (by simp only [Ev.mk.injEq, true_and, and_true]))
  generalize rfsB r1 r2 = B at HF HR
  go_enter Tryz.func106, Tryz.ntmps106
  go_wp2_with (first
      | (go_at_call_of 30 (Value.slice ba1 b1.length bc1); (with_reducible refine (HB.out _ (by exact eX)).mono ?_); rintro e w2 ⟨rfl, hb2⟩; have hE_w2 : Ext ((w.alloc (.cells #[.int .u8 k1, .int .u32 ao1, .int .u32 av1, .int .u8 old1, .slice ba1 b1.length bc1, .slice aa1 a1.length ac1, .slice ra1 r1.length rc1, .int .u8 fl1] 103)).alloc (.cells #[.int .u8 k1, .int .u32 ao1, .int .u32 av1, .int .u8 old1, .slice ba2 b1.length bc2, .slice aa2 a1.length ac2, .slice ra2 r2.length rc2, .int .u8 fl1] 103)) w2 := (by exact eX); obtain ⟨hc_w2, hf_w2⟩ := hE_w2.cells; have hz_w2 := hE_w2.size)
      | (go_at_call_of 30 (Value.slice aa1 a1.length ac1); (with_reducible refine (HA.out _ (by exact eX)).mono ?_); rintro e w3 ⟨rfl, hb3⟩; have hE_w3 : Ext ((w.alloc (.cells #[.int .u8 k1, .int .u32 ao1, .int .u32 av1, .int .u8 old1, .slice ba1 b1.length bc1, .slice aa1 a1.length ac1, .slice ra1 r1.length rc1, .int .u8 fl1] 103)).alloc (.cells #[.int .u8 k1, .int .u32 ao1, .int .u32 av1, .int .u8 old1, .slice ba2 b1.length bc2, .slice aa2 a1.length ac2, .slice ra2 r2.length rc2, .int .u8 fl1] 103)) w3 := (by exact eX); obtain ⟨hc_w3, hf_w3⟩ := hE_w3.cells; have hz_w3 := hE_w3.size)
      | (go_at_call 120; refine (HF.out _ (by exact eX)).mono ?_; rintro e w4 ⟨rfl, hb4⟩))
  go_ret
  exact ⟨ret_bool HR.out.symm, by exact eX⟩

end Go.Proofs.YtdgalkljngigeaaGreat

/-
Transactions of the call's own; the laws' Txs.
-/
namespace Go.Proofs.YtdgalkljngigeaaGreat
open Go.RowKit

theorem Tryz.infoEvP : (Tryz.prog.info? 103).map (fun i => (i.zero, i.size, i.bytes)) = some (some (.agg #[.int .u8 0, .int .u32 0, .int .u32 0, .int .u8 0, .slice none 0 0, .slice none 0 0, .slice none 0 0, .int .u8 0]), 8, 96) := by kernel_rfl
theorem Tryz.infoTxP : (Tryz.prog.info? 34).map (fun i => (i.zero, i.size, i.bytes)) = some (some (.agg #[.int .u32 0, .int .u64 0, .slice none 0 0]), 3, 40) := by kernel_rfl

structure TL.on (S : Nat → Prop) (x : TL) : Prop where
  a : x.es ≠ [] → ∀ b o, x.a = some ⟨b, o, none⟩ → S b
  e : ∀ e ∈ x.es, e.on S
theorem TL.on.mono {S T : Nat → Prop} {x : TL} (h : x.on S) (hs : ∀ b, S b → T b) : x.on T := ⟨fun h0 b o e => hs b (h.a h0 b o e), fun e he => (h.e e he).mono hs⟩
theorem TL.on.and {S T : Nat → Prop} {x : TL} (h : x.on S) (k : x.on T) : x.on (fun b => S b ∧ T b) := ⟨fun h0 b o e => ⟨h.a h0 b o e, k.a h0 b o e⟩, fun e he => (h.e e he).and (k.e e he)⟩
theorem TL.at.lt {n : Nat} {f : K → List Value} {W : World} {x : TL} (h : x.at n f W) : x.on (fun b => b < W.heap.size) :=
  ⟨fun h0 b o e => Sl.lt (by have := h.row; rw [e] at this; exact this) (fun q => h0 (by simpa using q)), fun e he => (h.sl e he).lt⟩
theorem TL.at.kp {S : Nat → Prop} {n : Nat} {f : K → List Value} {W W' : World} {x : TL} (h : x.at n f W) (hk : Kp S W W') (hs : x.on (fun b => ¬ S b)) : x.at n f W' := ES.kp h hk hs.a hs.e
theorem TL.len (l : List TL) : ∀ xs ∈ l.map TL.vals, xs.length = 3 := by
  intro xs hxs
  rw [List.mem_map] at hxs
  obtain ⟨p, _, rfl⟩ := hxs
  rfl

/-- Transactions of the call's own, in a row of its own, all from N on. -/
structure OwnT (W : World) (N : Nat) (xs : List Tx) (v : Value) (qs : List TL) : Prop where
  own : W.ownsRow N 34 3 v qs.length (qs.map TL.vals).flatten
  t : qs.map TL.t = xs
  sl : ∀ q ∈ qs, q.at 5 K.pc W
  ne : ∀ q ∈ qs, q.on (fun b => N ≤ b ∧ v.ownBlock ≠ some b)
  cap : ∀ q ∈ qs, q.es.length ≤ q.c
section
variable {S : Nat → Prop} {W W' : World} {N : Nat} {xs : List Tx} {v v' : Value} {qs : List TL} {q : TL}
theorem OwnT.nil (W : World) (N : Nat) : OwnT W N [] (.slice none 0 0) [] := ⟨World.ownsRow_nil _ _ _ _, rfl, (fun q h => by cases h), (fun q h => by cases h), (fun q h => by cases h)⟩
theorem OwnT.len (h : OwnT W N xs v qs) : qs.length = xs.length := by rw [← h.t, List.length_map]
theorem OwnT.kp (h : OwnT W N xs v qs) (hk : Kp S W W') (h1 : ∀ b, v.ownBlock = some b → ¬ S b) (h2 : ∀ q ∈ qs, q.on (fun b => ¬ S b)) : OwnT W' N xs v qs :=
  ⟨owns_kp h.own hk h1, h.t, fun q hq => (h.sl q hq).kp hk (h2 q hq), h.ne, h.cap⟩
theorem OwnT.low (h : OwnT W N xs v qs) (hk : Kp S W W') (h1 : ∀ b, S b → b < N ∨ W.heap.size ≤ b) : OwnT W' N xs v qs :=
  h.kp hk (fun b hb hs => by have := owns_lt3 h.own hb; have := h1 b hs; omega) (fun q hq => ((h.ne q hq).and (h.sl q hq).lt).mono (fun b hb hs => by have := h1 b hs; omega))
theorem OwnT.ext (h : OwnT W N xs v qs) (he : Ext W W') : OwnT W' N xs v qs := ⟨owns_ext h.own he, h.t, fun q hq => (h.sl q hq).ext he, h.ne, h.cap⟩
theorem OwnT.push (h : OwnT W N xs v qs) (hs : q.at 5 K.pc W) (hc : q.es.length ≤ q.c) (hn : q.on (fun b => N ≤ b ∧ v.ownBlock ≠ some b))
    (hg : W.grownBy W' v.ownBlock) (hat : v'.ownBlock = v.ownBlock ∨ v'.ownBlock = some W.heap.size) (ho : W'.ownsRow N 34 3 v' (qs.length + 1) ((qs.map TL.vals).flatten ++ q.vals)) : OwnT W' N (xs ++ [q.t]) v' (qs ++ [q]) := by
  have hall : ∀ x ∈ qs ++ [q], x.at 5 K.pc W ∧ x.on (fun b => N ≤ b ∧ v.ownBlock ≠ some b) := fun x hx => by
    rcases List.mem_append.1 hx with hx | hx
    · exact ⟨h.sl x hx, h.ne x hx⟩
    · obtain rfl : x = q := by simpa using hx
      exact ⟨hs, hn⟩
  refine ⟨by simpa using ho, by rw [List.map_append, h.t]; rfl, fun x hx => (hall x hx).1.kp (Kp.of_grown hg) ((hall x hx).2.mono (fun b hb => hb.2)), fun x hx => ((hall x hx).2.and (hall x hx).1.lt).mono (fun b hb => ⟨hb.1.1, ?_⟩), fun x hx => ?_⟩
  rotate_left 1
  · rcases List.mem_append.1 hx with hx | hx
    · exact h.cap x hx
    · obtain rfl : x = q := by simpa using hx
      exact hc
  rcases hat with h4 | h4
  · rw [h4]; exact hb.1.2
  · rw [h4]; intro h5; injection h5 with h5
    have := hb.2; omega
theorem OwnT.ts (h : OwnT W N xs v qs) : TS 5 K.pc W v qs := ⟨Sl.of_owns (base := N) (e := 34) (by rw [List.length_map]; exact h.own) (TL.len qs), h.sl⟩
end

set_option maxRecDepth 100000 in set_option maxHeartbeats 4000000 in
theorem txs_any (ts : List TL) (a : Option Addr) (c : Nat) (w : World) (ht : TS 6 K.rc w (.slice a ts.length c) ts) (hn : ts.length ≤ 1000) (hm : ∀ t ∈ ts, t.es.length ≤ 1000) (hs : ∀ t ∈ ts, ∀ e ∈ t.es, e.e.small) :
    Calls Tryz.prog 10 #[.slice a ts.length c] w fun e w' => ∃ a' c' qs, e = .returned (.slice a' ts.length c') ∧ OwnT w' w.heap.size (ts.map TL.t) (.slice a' ts.length c') qs ∧ Ext w w' := by
  obtain ⟨i0, hi, hz0, hz1, hz2⟩ := info_parts Tryz.infoEvP
  obtain ⟨j0, hj, hy0, hy1, hy2⟩ := info_parts Tryz.infoTxP
  have HT := Hid.mk' ht
  have HM := Hid.mk' hm
  have HS := Hid.mk' hs
  clear ht hm hs
  go_enter Tryz.func10, Tryz.ntmps10
  go_wp2
  go_loopg [3, 4] ts.length (fun z v i wr => ∃ (k : Nat) (qs : List TL), z + k = ts.length ∧ i = .int .i64 k ∧ Hid (OwnT wr w.heap.size ((ts.take k).map TL.t) v qs) ∧ Hid (Ext w wr))
  case atStart => exact ⟨0, [], by omega, rfl, Hid.mk' (OwnT.nil _ _), Hid.mk' (Ext.refl _)⟩
  case round =>
    obtain ⟨k, qs, hzk, rfl, hown, hE⟩ := hrel
    by_cases hlt : k < ts.length
    · obtain ⟨b, o, rfl, hb, hx⟩ := HT.out.row.at_ (i := k) (by simpa using hlt)
      have HF := Hid.mk' (fun W (h : Ext w W) => TL.at_ hlt hx hb h)
      obtain ⟨f0, f1, f2⟩ := HF.out wr hE.out
      have hbw : b < wr.heap.size := Nat.lt_of_lt_of_le hb hE.out.size
      have HES := Hid.mk' (HT.out.sl _ (List.getElem_mem hlt))
      have HMM := Hid.mk' (HM.out _ (List.getElem_mem hlt))
      have HSS := Hid.mk' (HS.out _ (List.getElem_mem hlt))
      have HTK : Hid (ts.take (k + 1) = ts.take k ++ [ts[k]]) := Hid.mk' (List.take_succ_eq_append_getElem hlt)
      obtain ⟨t, hte⟩ : ∃ t, t = ts[k] := ⟨_, rfl⟩
      rw [← hte] at HF f0 f1 f2 HES HMM HSS HTK
      have HBW := Hid.mk' hb
      have HLK := Hid.mk' hlt
      clear hte hx hb
      obtain ⟨xid, st, es, ta, tc⟩ := t
      simp only at HF f0 f1 f2 HMM HSS
      have HES2 : Hid (ES 6 K.rc w (.slice ta es.length tc) es) := HES
      clear HES
      go_wp2
      go_region_held3 (fun w' => Ext (wr) w' ∧ (∀ b o, b < (wr).heap.size → w'.cell? ⟨b, o, none⟩ = (wr).cell? ⟨b, o, none⟩) ∧ (∀ b o, b < (wr).heap.size → w'.frozen? ⟨b, o, none⟩ = (wr).frozen? ⟨b, o, none⟩)) ((exact held_of (by exact eX))) (fail)
      have HX1 : Hid (Blk (wr.alloc (.cells #[.int .u32 xid, .int .u64 st, .slice none 0 0] 34)).drew wr.heap.size #[.int .u32 xid, .int .u64 st, .slice none 0 0] 34) := Hid.mk' (Blk.new wr _ _).drew
      have HE1 : Hid (Ext wr (wr.alloc (.cells #[.int .u32 xid, .int .u64 st, .slice none 0 0] 34)).drew) := Hid.mk' (by exact eX)
      have hsz1 : (wr.alloc (.cells #[.int .u32 xid, .int .u64 st, .slice none 0 0] 34)).drew.heap.size = wr.heap.size + 1 := World.size_alloc _ _
      obtain ⟨w1, hw1⟩ : ∃ w1, w1 = (wr.alloc (.cells #[.int .u32 xid, .int .u64 st, .slice none 0 0] 34)).drew := ⟨_, rfl⟩
      rw [← hw1] at HX1 HE1 hsz1 ⊢
      obtain ⟨wo, hwo⟩ : ∃ x, x = wr := ⟨_, rfl⟩
      subst hwo
      obtain ⟨X, hX⟩ : ∃ X, X = wo.heap.size := ⟨_, rfl⟩
      rw [← hX] at HX1 hsz1 ⊢
      have HSZ := Hid.mk' (And.intro hX (And.intro hsz1 hE.out.size))
      have HEo := Hid.mk' hE.out
      clear hw1 hX hsz1 f0 f1 f2 hE
      go_wp2
      go_loopg [6] es.length (fun z2 i wr => ∃ (n : Nat) (va : Option Addr) (vc : Nat) (qs2 : List EL), z2 + n = es.length ∧ i = .int .i64 n ∧ Hid (Blk wr X #[.int .u32 xid, .int .u64 st, .slice va n vc] 34) ∧ Hid (OwnE 5 K.pc 103 wr (X + 1) ((es.take n).map EL.e) (.slice va n vc) qs2) ∧ Hid (Kp (fun x => x = X) w1 wr))
      case atStart => exact ⟨0, none, 0, [], by omega, rfl, HX1, Hid.mk' (OwnE.nil _ _), Hid.mk' Kp.refl⟩
      case round =>
        obtain ⟨n, va, vc, qs2, hzn, rfl, hB, hO, hK⟩ := hrel
        have HEW : Hid (Ext w wr) := Hid.mk' (Kp.ext (HEo.out.trans HE1.out) (fun x hx _ => by have := HSZ.out; omega) hK.out)
        have gX := hB.out.cell
        have gXf := hB.out.frozen
        have zX := hB.out.lt
        obtain ⟨f0, f1, f2⟩ := HF.out wr HEW.out
        have hbw2 : b < wr.heap.size := Nat.lt_of_lt_of_le HBW.out HEW.out.size
        have HKS := Hid.mk' hK.out.size
        have HQL := Hid.mk' hO.out.len
        by_cases hlt2 : n < es.length
        · obtain ⟨b2, o2, rfl, hb2, hx2⟩ := HES2.out.row.at_ (i := n) (by simpa using hlt2)
          have HG := Hid.mk' (fun W (h : Ext w W) => EL.at_ hlt2 hx2 hb2 h)
          have HB2 := Hid.mk' hb2
          have HTN : Hid (es.take (n + 1) = es.take n ++ [es[n]]) := Hid.mk' (List.take_succ_eq_append_getElem hlt2)
          have hsm := HSS.out _ (List.getElem_mem hlt2)
          have HOW := Hid.mk' (fun W (h : Ext w W) => eown_el es[n] W ((HES2.out.sl _ (List.getElem_mem hlt2)).ext h) hsm.b hsm.a hsm.r)
          obtain ⟨x, hxx⟩ : ∃ x, x = es[n] := ⟨_, rfl⟩
          have HLT := Hid.mk' hlt2
          rw [← hxx] at HG HTN HOW
          clear hxx hx2 hb2 hsm
          obtain ⟨⟨k1, ao1, av1, old1, b1, a1, r1, fl1⟩, ba1, bc1, aa1, ac1, ra1, rc1⟩ := x
          unfold EL.agg at HOW
          simp only at HG HOW
          have HSET : Hid (∀ w', Kp (fun x => w1.heap.size ≤ x) wr w' → (∀ j, w'.cell? ⟨X, j, none⟩ = (#[.int .u32 xid, .int .u64 st, .slice va n vc])[j]?) ∧ (∀ j, w'.frozen? ⟨X, j, none⟩ = false) ∧ w'.cell? ⟨b, o + k * 3 + 2, none⟩ = some (.slice (some ⟨b2, o2, none⟩) es.length tc) ∧ w'.cell? ⟨b2, o2 + n * 8, none⟩ = some (.int .u8 k1) ∧ w'.cell? ⟨b2, o2 + n * 8 + 1, none⟩ = some (.int .u32 ao1) ∧ w'.cell? ⟨b2, o2 + n * 8 + 2, none⟩ = some (.int .u32 av1) ∧ w'.cell? ⟨b2, o2 + n * 8 + 3, none⟩ = some (.int .u8 old1) ∧ w'.cell? ⟨b2, o2 + n * 8 + 4, none⟩ = some (.slice ba1 b1.length bc1) ∧ w'.cell? ⟨b2, o2 + n * 8 + 5, none⟩ = some (.slice aa1 a1.length ac1) ∧ w'.cell? ⟨b2, o2 + n * 8 + 6, none⟩ = some (.slice ra1 r1.length rc1) ∧ w'.cell? ⟨b2, o2 + n * 8 + 7, none⟩ = some (.int .u8 fl1) ∧ b < w'.heap.size ∧ b2 < w'.heap.size ∧ X < w'.heap.size) := Hid.mk' (fun w' h => by
            have hq := HSZ.out
            have hE' : Ext w w' := Kp.ext (HEo.out.trans HE1.out) (S := fun x => x = X ∨ w1.heap.size ≤ x) (fun x hx _ => by omega) ((hK.out.mono (T := fun x => x = X ∨ w1.heap.size ≤ x) (fun x hx _ => .inl hx)).trans h (fun x hx _ => .inr hx))
            have h2 := hB.out.kp h (by omega)
            obtain ⟨p0, p1, p2, p3, p4, p5, p6, p7⟩ := HG.out w' hE'
            exact ⟨h2.cell, h2.frozen, (HF.out w' hE').2.2, p0, p1, p2, p3, p4, p5, p6, p7, Nat.lt_of_lt_of_le HBW.out hE'.size, Nat.lt_of_lt_of_le HB2.out hE'.size, h2.lt⟩)
          obtain ⟨g0, g1, g2, g3, g4, g5, g6, g7⟩ := HG.out wr HEW.out
          have hbw3 : b2 < wr.heap.size := Nat.lt_of_lt_of_le HB2.out HEW.out.size
          go_wp2
          clear gX gXf zX f0 f1 f2 g0 g1 g2 g3 g4 g5 g6 g7
          have hA0 : Hid ((fun w' => (∀ j, w'.cell? ⟨X, j, none⟩ = (#[.int .u32 xid, .int .u64 st, .slice va n vc])[j]?) ∧ (∀ j, w'.frozen? ⟨X, j, none⟩ = false) ∧ w'.cell? ⟨b, o + k * 3 + 2, none⟩ = some (.slice (some ⟨b2, o2, none⟩) es.length tc) ∧ w'.cell? ⟨b2, o2 + n * 8, none⟩ = some (.int .u8 k1) ∧ w'.cell? ⟨b2, o2 + n * 8 + 1, none⟩ = some (.int .u32 ao1) ∧ w'.cell? ⟨b2, o2 + n * 8 + 2, none⟩ = some (.int .u32 av1) ∧ w'.cell? ⟨b2, o2 + n * 8 + 3, none⟩ = some (.int .u8 old1) ∧ w'.cell? ⟨b2, o2 + n * 8 + 4, none⟩ = some (.slice ba1 b1.length bc1) ∧ w'.cell? ⟨b2, o2 + n * 8 + 5, none⟩ = some (.slice aa1 a1.length ac1) ∧ w'.cell? ⟨b2, o2 + n * 8 + 6, none⟩ = some (.slice ra1 r1.length rc1) ∧ w'.cell? ⟨b2, o2 + n * 8 + 7, none⟩ = some (.int .u8 fl1) ∧ b < w'.heap.size ∧ b2 < w'.heap.size ∧ X < w'.heap.size) wr.drew) := Hid.mk' (HSET.out _ (Kp.of_ext (Ext.refl wr).drew))
          refine wp_region_head 13 (fun w' => (∀ j, w'.cell? ⟨X, j, none⟩ = (#[.int .u32 xid, .int .u64 st, .slice va n vc])[j]?) ∧ (∀ j, w'.frozen? ⟨X, j, none⟩ = false) ∧ w'.cell? ⟨b, o + k * 3 + 2, none⟩ = some (.slice (some ⟨b2, o2, none⟩) es.length tc) ∧ w'.cell? ⟨b2, o2 + n * 8, none⟩ = some (.int .u8 k1) ∧ w'.cell? ⟨b2, o2 + n * 8 + 1, none⟩ = some (.int .u32 ao1) ∧ w'.cell? ⟨b2, o2 + n * 8 + 2, none⟩ = some (.int .u32 av1) ∧ w'.cell? ⟨b2, o2 + n * 8 + 3, none⟩ = some (.int .u8 old1) ∧ w'.cell? ⟨b2, o2 + n * 8 + 4, none⟩ = some (.slice ba1 b1.length bc1) ∧ w'.cell? ⟨b2, o2 + n * 8 + 5, none⟩ = some (.slice aa1 a1.length ac1) ∧ w'.cell? ⟨b2, o2 + n * 8 + 6, none⟩ = some (.slice ra1 r1.length rc1) ∧ w'.cell? ⟨b2, o2 + n * 8 + 7, none⟩ = some (.int .u8 fl1) ∧ b < w'.heap.size ∧ b2 < w'.heap.size ∧ X < w'.heap.size) (by kernel_rfl) (by decide) ?_
          (refine wpHd_take (i := 0) (v := ?_) rfl (by kernel_rfl) (by kernel_rfl) (by kernel_rfl) (fun _ _ _ h => h) (Or.inl ⟨by rfl, ?_⟩) hA0.out ?_; rotate_left 1; · (intro w' hS'; (try dsimp only at hS'); go_split_ands; go_simp; try with_reducible rfl))
          (refine wpHd_take (i := 1) (v := ?_) rfl (by kernel_rfl) (by kernel_rfl) (by kernel_rfl) (fun _ _ _ h => h) (Or.inl ⟨by rfl, ?_⟩) hA0.out ?_; rotate_left 1; · (intro w' hS'; (try dsimp only at hS'); go_split_ands; go_simp; try with_reducible rfl))
          (refine wpHd_take (i := 2) (v := ?_) rfl (by kernel_rfl) (by kernel_rfl) (by kernel_rfl) (fun _ _ _ h => h) (Or.inl ⟨by rfl, ?_⟩) hA0.out ?_; rotate_left 1; · (intro w' hS'; (try dsimp only at hS'); go_split_ands; go_simp; try with_reducible rfl))
          (refine wpHd_take (i := 3) (v := ?_) rfl (by kernel_rfl) (by kernel_rfl) (by kernel_rfl) (fun _ _ _ h => h) (Or.inl ⟨by rfl, ?_⟩) hA0.out ?_; rotate_left 1; · (intro w' hS'; (try dsimp only at hS'); go_split_ands; go_simp; try with_reducible rfl))
          (refine wpHd_take (i := 4) (v := ?_) rfl (by kernel_rfl) (by kernel_rfl) (by kernel_rfl) (fun _ _ _ h => h) (Or.inl ⟨by rfl, ?_⟩) hA0.out ?_; rotate_left 1; · (intro w' hS'; (try dsimp only at hS'); go_split_ands; go_simp; try with_reducible rfl))
          (refine wpHd_take (i := 5) (v := ?_) rfl (by kernel_rfl) (by kernel_rfl) (by kernel_rfl) (fun _ _ _ h => h) (Or.inl ⟨by rfl, ?_⟩) hA0.out ?_; rotate_left 1; · (intro w' hS'; (try dsimp only at hS'); go_split_ands; go_simp; try with_reducible rfl))
          (refine wpHd_take (i := 6) (v := ?_) rfl (by kernel_rfl) (by kernel_rfl) (by kernel_rfl) (fun _ _ _ h => h) (Or.inl ⟨by rfl, ?_⟩) hA0.out ?_; rotate_left 1; · (intro w' hS'; (try dsimp only at hS'); go_split_ands; go_simp; try with_reducible rfl))
          (refine wpHd_take (i := 7) (v := ?_) rfl (by kernel_rfl) (by kernel_rfl) (by kernel_rfl) (fun _ _ _ h => h) (Or.inl ⟨by rfl, ?_⟩) hA0.out ?_; rotate_left 1; · (intro w' hS'; (try dsimp only at hS'); go_split_ands; go_simp; try with_reducible rfl))
          (refine wpHd_take (i := 8) (v := ?_) rfl (by kernel_rfl) (by kernel_rfl) (by kernel_rfl) (fun _ _ _ h => h) (Or.inl ⟨by rfl, ?_⟩) hA0.out ?_; rotate_left 1; · (intro w' hS'; (try dsimp only at hS'); go_split_ands; go_simp; try with_reducible rfl))
          (refine wpHd_take (i := 9) (v := ?_) rfl (by kernel_rfl) (by kernel_rfl) (by kernel_rfl) (fun _ _ _ h => h) (Or.inl ⟨by rfl, ?_⟩) hA0.out ?_; rotate_left 1; · (intro w' hS'; (try dsimp only at hS'); go_split_ands; go_simp; try with_reducible rfl))
          refine wpHd_one (i := 10) rfl rfl (by kernel_rfl) (fun KK hK => ?_)
          go_simp
          refine (HOW.out _ HEW.out.drew).mono ?_
          rintro e w7 ⟨⟨ye, ba2, bc2, aa2, ac2, ra2, rc2⟩, rfl, hye, hat7, hon7, hb7⟩
          simp only at hye
          subst hye
          have H7 := Hid.mk' hat7
          have HN7 := Hid.mk' hon7
          have HB7 : Hid (Ext wr w7) := Hid.mk' ((Ext.refl wr).drew.trans hb7)
          refine hK.out _ _ (HSET.out _ (Kp.of_ext HB7.out)) (fun hA => ?_)
          clear hK KK hA hA0 hat7 hon7 hb7
          try simp only
          refine wpHd_one (i := 11) rfl rfl (by kernel_rfl) (fun KK hK => ?_)
          go_simp
          refine hK.out _ _ (HSET.out _ (Kp.of_ext (HB7.out.alloc _))) (fun hA => ?_)
          clear hK KK hA
          refine wpHd_one (i := 12) rfl rfl (by kernel_rfl) (fun KK hK => ?_)
          have hqn : qs2.length = n := by rw [HQL.out, List.length_map, List.length_take]; have := HLT.out; omega
          have HQN := Hid.mk' hqn
          have HQN2 := Hid.mk' (show n + 1 ≤ 1000 by have := HLT.out; have := HMM.out; omega)
          have HO7 : Hid (OwnE 5 K.pc 103 (w7.alloc (.cells #[.int .u8 k1, .int .u32 ao1, .int .u32 av1, .int .u8 old1, .slice ba2 b1.length bc2, .slice aa2 a1.length ac2, .slice ra2 r1.length rc2, .int .u8 fl1] 103)) (X + 1) ((es.take n).map EL.e) (.slice va n vc) qs2) := Hid.mk' (hO.out.ext (HB7.out.alloc _))
          refine wp_append_lies _ _ _ 32 (by rfl) (X + 1) 103 i0 _ 8 96 Tryz.underlying32 hi hz0 hz1 hz2 rfl (by decide) (.slice va n vc) n _ (by rfl) (by have := HO7.out.own; rw [HQN.out] at this; exact this) ⟨_, 0, none⟩ 1 1 (EL.vals ⟨⟨k1, ao1, av1, old1, b1, a1, r1, fl1⟩, ba2, bc2, aa2, ac2, ra2, rc2⟩) (by rfl) rfl (cells_new _ #[.int .u8 k1, .int .u32 ao1, .int .u32 av1, .int .u8 old1, .slice ba2 b1.length bc2, .slice aa2 a1.length ac2, .slice ra2 r1.length rc2, .int .u8 fl1] _) (EL.one _) (by decide) (by unfold maxLen; have := HQN2.out; omega) (by have := HQN2.out; omega) (by have h1 := HB7.out.size; have h2 := HKS.out; have h3 := HSZ.out; simp; omega) _ rfl ?_
          intro g4 cap4 w4 hown4 hgrow4 hat4 hlt4
          have HP : Hid (OwnE 5 K.pc 103 w4 (X + 1) ((es.take (n + 1)).map EL.e) (.slice (some ⟨g4, 0, none⟩) (n + 1) cap4) (qs2 ++ [⟨⟨k1, ao1, av1, old1, b1, a1, r1, fl1⟩, ba2, bc2, aa2, ac2, ra2, rc2⟩])) := Hid.mk' (by
            rw [HTN.out, List.map_append]
            refine OwnE.push HO7.out (H7.out.ext ((Ext.refl _).alloc _)) ((HN7.out).mono (fun b hb => ?_)) hgrow4 (hat4.elim (fun h => .inl (by rw [h]; rfl)) (fun h => .inr (by rw [h]; rfl))) (by rw [HQN.out]; exact hown4)
            have hb' : wr.heap.size ≤ b := hb
            have h2 := HKS.out
            have h3 := HSZ.out
            exact ⟨by omega, fun e => by have := owns_lt3 hO.out.own e; omega⟩)
          have HKG : Hid (Kp (fun x => w1.heap.size ≤ x) wr w4) := Hid.mk' ((Kp.of_ext (S := fun x => w1.heap.size ≤ x) (HB7.out.alloc _)).trans (Kp.of_grown hgrow4) (fun x hx _ => by have := owns_lt3 hO.out.own hx; have h3 := HSZ.out; omega))
          refine hK.out _ _ (HSET.out _ HKG.out) (fun hA => ?_)
          clear hK KK hA hown4 hgrow4 hat4 hlt4 hqn
          have hX4 : Hid (Blk w4 X #[.int .u32 xid, .int .u64 st, .slice va n vc] 34) := Hid.mk' (hB.out.kp HKG.out (by have := HSZ.out; omega))
          have gX := hX4.out.cell
          have gXf := hX4.out.frozen
          have zX := hX4.out.lt
          have hml := HMM.out
          have hlt3 := HLT.out
          refine wpHd_tail (by kernel_rfl) ?_
          simp only [List.drop_succ_cons, List.drop_zero]
          go_wp2
          go_roundg (es.length - (n + 1))
          case measure => have := HLT.out; omega
          case rel =>
            refine ⟨n + 1, some ⟨g4, 0, none⟩, cap4, _, Nat.sub_add_cancel HLT.out, by go_num, Hid.mk' ?_, Hid.mk' (HP.out.low (Kp.set (S := fun x => x = X) ⟨X, 2, none⟩ _ rfl) (fun x hx => by have hx' : x = X := hx; omega)), Hid.mk' ?_⟩
            · have := hX4.out.set 2 (.slice (some ⟨g4, 0, none⟩) (n + 1) cap4)
              simpa only [List.setIfInBounds_toArray, List.set_cons_zero, List.set_cons_succ] using this
            · exact ((hK.out.mono (T := fun x => x = X) (fun x hx _ => hx)).trans (HKG.out) (fun x hx h => by omega)).trans (T := fun x => x = X) (Kp.set _ _ rfl) (fun x hx _ => hx)
        · obtain rfl : n = es.length := by omega
          rw [List.take_length] at hO
          have HON : Hid (OwnT wr w.heap.size ((ts.take k).map TL.t) _ qs) := Hid.mk' (hown.out.low (S := fun x => x = X) ((Kp.of_ext HE1.out).trans hK.out (fun x hx _ => hx)) (fun x hx => by have := HSZ.out; have hx' : x = X := hx; omega))
          have HQT : Hid (qs.length = k) := Hid.mk' (by rw [hown.out.len, List.length_map, List.length_take]; have := HLK.out; omega)
          have HKN := Hid.mk' (show k + 1 ≤ 1000 by have := HLK.out; omega)
          have HVB := Hid.mk' (fun b hb => (owns_lt3 hown.out.own (g := b) hb))
          have HQS : Hid (ES 5 K.pc wr (.slice va es.length vc) qs2) := Hid.mk' hO.out.row
          have hqn : qs2.length = es.length := by rw [HQL.out, List.length_map, List.length_take]; omega
          have HQN := Hid.mk' hqn
          have HQE := Hid.mk' hO.out.e
          have HCV := Hid.mk' (owns_cap hO.out.own)
          have HON2 := Hid.mk' hO.out.ne
          have HOB := Hid.mk' (fun b hb => (owns_lt3 hO.out.own (g := b) hb))
          clear hqn hown hO
          go_wp2_with (at_builtin; refine wpList_append_own_at _ rfl _ _ 35 rfl w.heap.size 34 j0 _ 3 40 Tryz.underlying35 hj hy0 hy1 hy2 rfl (by decide) _ k _ rfl (by have h := owns_ext HON.out.own ((Ext.refl wr).alloc (.cells #[.int .u32 xid, .int .u64 st, .slice va es.length vc] 34)); rw [HQT.out] at h; exact h) ⟨_, 0, none⟩ 1 1 [.int .u32 xid, .int .u64 st, .slice va es.length vc] rfl rfl ?c1 ?c2 ?c3 ?c4 ?c5 ?_)
          case c1 => exact cells_new _ #[.int .u32 xid, .int .u64 st, .slice va es.length vc] _
          case c2 => intro u hu; simp at hu; rcases hu with rfl | rfl | rfl <;> rfl
          case c3 => unfold maxLen; have := HKN.out; omega
          case c4 => have := HKN.out; omega
          case c5 => have := HSZ.out; have := HKS.out; simp; omega
          intro v' w2 hown' hgrow _ hat
          have HOF : Hid (OwnT w2 w.heap.size ((ts.take (k + 1)).map TL.t) v' (qs ++ [⟨xid, st, qs2, va, vc⟩])) := Hid.mk' (by
            rw [HTK.out, List.map_append]
            have h1 := OwnT.push (q := ⟨xid, st, qs2, va, vc⟩) (HON.out.ext ((Ext.refl wr).alloc (.cells #[.int .u32 xid, .int .u64 st, .slice va es.length vc] 34))) (by show ES 5 K.pc _ (.slice va qs2.length vc) qs2; rw [HQN.out]; exact HQS.out.ext ((Ext.refl wr).alloc _)) (by show qs2.length ≤ vc; rw [HQN.out]; exact HCV.out) ⟨fun h0 b o e => ?_, fun x hx => (HON2.out x hx).mono (fun b hb => ?_)⟩ hgrow (by first | exact hat | (rw [World.size_alloc]; exact hat)) (by rw [HQT.out, show TL.vals ⟨xid, st, qs2, va, vc⟩ = [.int .u32 xid, .int .u64 st, .slice va es.length vc] from by unfold TL.vals; rw [HQN.out]]; exact hown')
            · have e2 : TL.t ⟨xid, st, qs2, va, vc⟩ = TL.t ⟨xid, st, es, ta, tc⟩ := by unfold TL.t; rw [HQE.out]
              rw [e2] at h1
              exact h1
            · have h2 := HOB.out b (by rw [show va = some ⟨b, o, none⟩ from e]; rfl)
              have h3 := HSZ.out
              exact ⟨by omega, fun e => by have := HVB.out b e; omega⟩
            · have h3 := HSZ.out
              have h4 : X + 1 ≤ b := hb.1
              exact ⟨by omega, fun e => by have := HVB.out b e; omega⟩)
          have HEF : Hid (Ext w w2) := Hid.mk' ((HEW.out.alloc (.cells #[.int .u32 xid, .int .u64 st, .slice va es.length vc] 34)).grown (owns_ext HON.out.own ((Ext.refl wr).alloc _)) hgrow)
          clear hown' hgrow hat
          go_wp2
          go_roundg (ts.length - (k + 1))
          case measure => have := HLK.out; omega
          case rel => exact ⟨k + 1, _, by have := HLK.out; omega, by go_num, HOF, HEF⟩
    · obtain rfl : k = ts.length := by omega
      rw [List.take_length] at hown
      have hql := hown.out.len
      rw [List.length_map] at hql
      obtain ⟨a', c', rfl⟩ := owns_shape hown.out.own
      rw [hql] at hown ⊢
      clear hql
      go_wp2
      go_ret
      exact ⟨a', c', qs, rfl, hown.out, hE.out⟩

end Go.Proofs.YtdgalkljngigeaaGreat

/-
A catalog of relations: the program's Of, Get.
-/
namespace Go.Proofs.YtdgalkljngigeaaGreat
open Go.RowKit

theorem Ca.S_ge {W : World} {N g : Nat} {c : Value} {ps : List RR} (h : Ca W N g c ps) : ∀ x, Ca.S g c x → N ≤ x := fun x hx => by
  rcases hx with rfl | hx
  · exact h.gN
  · exact (h.own.lt x hx).1

def COfPost (l : List Rl) (w : World) (e : Ending) (w' : World) : Prop :=
  ∃ pv, e = .returned (.tuple #[.pointer pv, .int .i64 (ofPl l : Nat), .int .i64 (ofE l)]) ∧ (ofE l = 0 → pv = some ⟨w.heap.size, 0, none⟩ ∧ ∃ c qs, Ca w' w.heap.size w.heap.size c qs ∧ qs.map RR.r = ofUp l l.length) ∧ (ofE l ≠ 0 → pv = none) ∧ Ext w w'

set_option maxRecDepth 100000 in set_option maxHeartbeats 4000000 in
theorem cof_any (ps : List RR) (a : Option Addr) (cap : Nat) (w : World) (hl : RL w (.slice a ps.length cap) ps) (hcap : ∀ p ∈ ps, p.r.cols.length ≤ p.c) (hb : ∀ p ∈ ps, p.r.wb) (hlen : ps.length ≤ 1000) :
    Calls Tryz.prog 31 #[.slice a ps.length cap] w (COfPost (ps.map RR.r) w) := by
  have HL := Hid.mk' hl
  have HB := Hid.mk' hb
  have HCP := Hid.mk' hcap
  clear hl hb hcap
  go_enter Tryz.func31, Tryz.ntmps31
  go_wp2_with (go_at_call 33; refine (new_any _).mono ?_; rintro e w1 ⟨rfl, rfl⟩)
  go_loopw [12] (fun i wr => ∃ (k : Nat) (c : Value) (qs : List RR), k ≤ ps.length ∧ i = .int .i64 k ∧ Hid (∀ j, j < k → ofAt (ps.map RR.r) j = 0) ∧ Hid (Ca wr w.heap.size w.heap.size c qs) ∧ Hid (qs.map RR.r = ofUp (ps.map RR.r) k) ∧ Hid (Ext w wr)) (fun i _ => ps.length - (intOf i).toNat)
  case atStart => exact ⟨0, _, [], Nat.zero_le _, rfl, Hid.mk' (fun j h => by omega), Hid.mk' (Ca.new w), Hid.mk' rfl, Hid.mk' (by exact eX)⟩
  case round =>
    obtain ⟨k, c, qs, hk, rfl, hz, hca, hqs, hE⟩ := hrel
    by_cases hlt : k < ps.length
    · obtain ⟨b, o, rfl, hb, hx⟩ := HL.out.row.at_ (i := k) (by simpa using hlt)
      obtain ⟨f0, f1, f2, f3, f4⟩ := RR.at_ hlt hx hb hE.out
      have hbw : b < wr.heap.size := Nat.lt_of_lt_of_le hb hE.out.size
      have hin := HL.out.sl _ (List.getElem_mem hlt)
      have hwb := HB.out _ (List.getElem_mem hlt)
      have hcp := HCP.out _ (List.getElem_mem hlt)
      have hlt2 : k < (ps.map RR.r).length := by simpa using hlt
      have HS : Hid (ofUp (ps.map RR.r) (k + 1) = addL (qs.map RR.r) ps[k].r) := Hid.mk' (by rw [ofUp_succ hlt2, List.getElem_map, hqs.out])
      have HAT : Hid (ofAt (ps.map RR.r) k = addE (qs.map RR.r) ps[k].r) := Hid.mk' (by unfold ofAt; rw [dif_pos hlt2, List.getElem_map, hqs.out])
      obtain ⟨p, hp⟩ : ∃ p, p = ps[k] := ⟨_, rfl⟩
      rw [← hp] at f0 f1 f2 f3 f4 hin hwb hcp HS HAT
      have HAD := Hid.mk' (fun W (h : Ext wr W) => cadd_any w.heap.size w.heap.size c qs p W (hca.out.ext h) (hin.ext (hE.out.trans h)) hcp hwb)
      unfold CAddPost RR.agg at HAD
      rw [← HAT.out] at HAD
      clear hx hp hin hwb hcp
      obtain ⟨E, hEE⟩ : ∃ E, E = ofAt (ps.map RR.r) k := ⟨_, rfl⟩
      rw [← hEE] at HAD
      have HSG := Hid.mk' hca.out.S_ge
      by_cases h0 : E = 0
      · have H0 := Hid.mk' (hEE.symm.trans h0)
        subst h0
        clear hEE
        go_wp2_with (go_at_call 35; refine (HAD.out _ (by exact eX)).mono ?_; rintro e w1 ⟨c', q', rfl, hqr, hc', hkp, -⟩; have HC' := Hid.mk' hc'; have HQR := Hid.mk' hqr; have HE1 := Hid.mk' (Kp.ext (show Ext w _ from hE.out.trans (by exact eX)) (fun x hx _ => HSG.out x hx) hkp); clear hc' hqr hkp)
        go_roundw
        case rel => exact ⟨k + 1, c', _, by omega, by go_num, Hid.mk' (fun j hj => by
          by_cases e : j = k
          · subst e; exact H0.out
          · exact hz.out j (by omega)), HC', Hid.mk' (by rw [addP_r, HS.out, HQR.out]), HE1⟩
        case measure => simp [intOf]; omega
      · have h0' : (E != 0) = true := by simpa using h0
        have HF := Hid.mk' (show ofE (ps.map RR.r) = E by unfold ofE; rw [firstE_at hz.out hlt2 (by rw [← hEE]; exact h0), hEE])
        have HPL := Hid.mk' (show ofPl (ps.map RR.r) = k from plE_at hz.out (by rw [← hEE]; exact h0) hlt2)
        have H0 := Hid.mk' h0
        clear h0 hEE
        go_wp2_with (go_at_call 35; refine (HAD.out _ (by exact eX)).mono ?_; rintro e w1 ⟨c', q', rfl, hqr, hc', hkp, -⟩; have HE1 := Hid.mk' (Kp.ext (show Ext w _ from hE.out.trans (by exact eX)) (fun x hx _ => HSG.out x hx) hkp); clear hc' hqr hkp)
        go_ret3
        exact ⟨none, by rw [HF.out, HPL.out]; rfl, fun h => absurd (HF.out.symm.trans h) H0.out, fun _ => rfl, HE1.out⟩
    · obtain rfl : k = ps.length := by omega
      have HF := Hid.mk' (show ofE (ps.map RR.r) = 0 by unfold ofE; exact firstE_zero (by rw [List.length_map]; exact hz.out))
      have HPL := Hid.mk' (show ofPl (ps.map RR.r) = ps.length by unfold ofPl; rw [plE_zero (by rw [List.length_map]; exact hz.out), List.length_map])
      go_wp2
      go_ret3
      exact ⟨_, by rw [HF.out, HPL.out]; rfl, fun _ => ⟨rfl, c, qs, hca.out, by rw [List.length_map]; exact hqs.out⟩, fun h => absurd HF.out h, hE.out⟩

set_option maxRecDepth 100000 in set_option maxHeartbeats 4000000 in
theorem cget_any (N g : Nat) (c : Value) (ps : List RR) (o v : Int) (w : World) (hc : Ca w N g c ps) :
    Calls Tryz.prog 40 #[.pointer (some ⟨g, 0, none⟩), .agg #[.int .u32 o, .int .u32 v]] w fun e w' => ∃ q : RR, e = .returned (.tuple #[q.agg, .bool (hasR o v (ps.map RR.r))]) ∧ q.r = ((getP o v ps).getD RR.zero).r ∧ q.owned w.heap.size w' ∧ Ext w w' := by
  obtain ⟨a, cap, rfl⟩ := hc.shape
  have HFD := Hid.mk' (fun W (h : Ext w W) => find_any N g _ ps o v W (hc.ext h))
  have HC := Hid.mk' hc
  have hhas := hc.ok.srt.has o v
  have g0 := hc.ptr.cell
  have z0 := hc.ptr.lt
  clear hc
  obtain ⟨P, hP⟩ : ∃ P, P = posR o v (ps.map RR.r) := ⟨_, rfl⟩
  rw [← hP] at HFD
  cases hh : hasR o v (ps.map RR.r) with
  | false =>
    rw [hh] at HFD
    have HN : Hid (getP o v ps = none) := Hid.mk' (by
      have := getP_is o v ps
      rw [hh] at this
      exact Option.not_isSome_iff_eq_none.1 (by rw [this]; simp))
    clear hh hhas hP
    go_enter Tryz.func40, Tryz.ntmps40
    go_wp2_with (go_at_call 62; refine (HFD.out _ (by exact eX)).mono ?_; rintro e w1 ⟨rfl, hb1⟩; have HB1 := Hid.mk' ((Blk.new' (w := w.alloc (.cells #[.int .u32 o, .int .u32 v] 68)) (b := w.heap.size + 1) #[.int .u32 0, .int .u32 0, .string ⟨#[]⟩, .int .u8 0, .slice none 0 0] 99 (by simp)).ext hb1); have g1 := HB1.out.cell; have g1f := HB1.out.frozen; have z1 := HB1.out.lt)
    simp [bodyPost, results, Tryz.results40, go_sem, *]
    refine ⟨RR.zero, ⟨rfl, by rw [HN.out]; rfl, World.ownsRow_nil _ _ _ _, by exact eX⟩⟩
  | true =>
    rw [hh] at HFD hhas
    have hex := of_decide_eq_true hhas.symm
    obtain ⟨hi, hq⟩ := hex
    simp only [← hP, List.getElem_map] at hi hq
    have hlt : P < ps.length := by simpa using hi
    have HG : Hid (getP o v ps = some ps[P]) := Hid.mk' (getP_at hlt hq (fun j hj hjp hq2 => by
      have := HC.out.ok.srt.at_ (i := j) (j := P) (by simpa using hj) (by simpa using hlt) hjp
      unfold Rl.lt at this
      simp only [List.getElem_map] at this
      rw [hq.1, hq.2, hq2.1, hq2.2] at this
      exact ahead_irr this))
    have HOW := Hid.mk' (fun W (h : Ext w W) => pown_any ps[P] W ((HC.out.sl _ (List.getElem_mem hlt)).ext h) (by have := HC.out.n16 (List.getElem_mem hlt); omega))
    obtain ⟨b, q, rfl, hb, hx⟩ := HC.out.rl.row.at_ (i := P) (by simpa using hlt)
    have HF := Hid.mk' (fun W (h : Ext w W) => RR.at_ hlt hx hb h)
    obtain ⟨p, hp⟩ : ∃ p, p = ps[P] := ⟨_, rfl⟩
    rw [← hp] at HG HOW HF
    unfold RR.agg at HOW
    clear hh hhas hP hi hq hx hp
    go_enter Tryz.func40, Tryz.ntmps40
    go_wp2_with (first
      | (go_at_call 62; refine (HFD.out _ (by exact eX)).mono ?_; rintro e w1 ⟨rfl, hb1⟩; have HE1 := Hid.mk' (show Ext ((w.alloc (.cells #[.int .u32 o, .int .u32 v] 68)).alloc (.cells #[.int .u32 0, .int .u32 0, .string ⟨#[]⟩, .int .u8 0, .slice none 0 0] 99)) w1 from hb1); have hEw : Ext w w1 := (((Ext.refl w).alloc _).alloc _).trans hb1; obtain ⟨f0, f1, f2, f3, f4⟩ := HF.out _ hEw; have g2 := (HC.out.ptr.ext hEw).cell; have z2 := (HC.out.ptr.ext hEw).lt; have hbw : b < w1.heap.size := Nat.lt_of_lt_of_le hb hEw.size; have HEw := Hid.mk' hEw; clear hEw hb1)
      | (go_at_call 60; refine (HOW.out _ HEw.out).mono ?_; rintro e w3 ⟨⟨r', a', c'⟩, rfl, hqr, hqo, hb3⟩; simp only at hqr; subst hqr; have HQO := Hid.mk' hqo; have HE3 := Hid.mk' (HE1.out.trans hb3); have HB1 := Hid.mk' ((Blk.new' (w := w.alloc (.cells #[.int .u32 o, .int .u32 v] 68)) (b := w.heap.size + 1) #[.int .u32 0, .int .u32 0, .string ⟨#[]⟩, .int .u8 0, .slice none 0 0] 99 (by simp)).ext HE3.out); have g1 := HB1.out.cell; have g1f := HB1.out.frozen; have z1 := HB1.out.lt; have hzz := HE1.out.size; clear hqo hb3; try simp only))
    simp [bodyPost, results, Tryz.results40, go_sem, *]
    have hEw : Ext w w3 := (((Ext.refl w).alloc _).alloc _).trans HE3.out
    simp only [World.size_alloc] at hzz
    refine ⟨⟨p.r, a', c'⟩, rfl, by rw [HG.out]; rfl, ?_, by exact eX⟩
    exact owns_base (base := w1.heap.size) (owns_set (owns_set (owns_set (owns_set (owns_set HQO.out (by dsimp only; omega) _) (by dsimp only; omega) _) (by dsimp only; omega) _) (by dsimp only; omega) _) (by dsimp only; omega) _) (by omega)

end Go.Proofs.YtdgalkljngigeaaGreat

/-
A row of cells in a block of the call's own: read, written at an index, made, cloned.
-/
namespace Go.Proofs.YtdgalkljngigeaaGreat
open Go.RowKit

def RowAt (W : World) (g : Nat) (ks : List K) : Prop := ∃ cs : Array Value, Blk W g cs 124 ∧ ks.length * 5 ≤ cs.size ∧ ∀ i (hi : i < ks.length), ∀ j, j < 5 → cs[i * 5 + j]? = (ks[i].pc)[j]?
section
variable {W W' : World} {g : Nat} {ks : List K}
theorem RowAt.lt (h : RowAt W g ks) : g < W.heap.size := by obtain ⟨cs, hb, _⟩ := h; exact hb.lt
theorem RowAt.ext (h : RowAt W g ks) (he : Ext W W') : RowAt W' g ks := by obtain ⟨cs, hb, hr⟩ := h; exact ⟨cs, hb.ext he, hr⟩
theorem RowAt.drew (h : RowAt W g ks) : RowAt W.drew g ks := h
theorem RowAt.alloc (h : RowAt W g ks) (o : Obj) : RowAt (W.alloc o) g ks := h.ext ((Ext.refl W).alloc o)
theorem RowAt.other (h : RowAt W g ks) (a : Addr) (v : Value) (hne : g ≠ a.block) : RowAt (W.setCell a v) g ks := by obtain ⟨cs, hb, hr⟩ := h; exact ⟨cs, hb.other a v hne, hr⟩
theorem RowAt.kept (h : RowAt W g ks) {row : Option Nat} (hg : W.grownBy W' row) (hr : ∀ r, row = some r → ∃ o : Obj, W.heap[r]? = some o ∧ o.isCells = false) : RowAt W' g ks := by
  obtain ⟨cs, hb, hx⟩ := h
  refine ⟨cs, (hg.block g hb.lt (fun e => ?_)).trans hb, hx⟩
  obtain ⟨o, ho, hc⟩ := hr g e.symm
  rw [show W.heap[g]? = _ from hb] at ho
  cases ho; cases hc
theorem RowAt.frozen (h : RowAt W g ks) (o : Nat) : W.frozen? ⟨g, o, none⟩ = false := by obtain ⟨cs, hb, _⟩ := h; exact hb.frozen o
theorem RowAt.cells (h : RowAt W g ks) {i : Nat} (hi : i < ks.length) : W.cell? ⟨g, i * 5, none⟩ = some (.int .u8 ks[i].k) ∧ W.cell? ⟨g, i * 5 + 1, none⟩ = some (.int .u8 ks[i].v.ty) ∧ W.cell? ⟨g, i * 5 + 2, none⟩ = some (.int .i64 ks[i].v.n) ∧
    W.cell? ⟨g, i * 5 + 3, none⟩ = some (.complex .f64 ks[i].v.x ks[i].v.y) ∧ W.cell? ⟨g, i * 5 + 4, none⟩ = some (.string ks[i].v.s) := by
  obtain ⟨cs, hb, _, hx⟩ := h
  have hx := hx i hi
  exact ⟨(hb.cell _).trans (hx 0 (by omega)), (hb.cell _).trans (hx 1 (by omega)), (hb.cell _).trans (hx 2 (by omega)), (hb.cell _).trans (hx 3 (by omega)), (hb.cell _).trans (hx 4 (by omega))⟩
theorem RowAt.sl (h : RowAt W g ks) (cap : Nat) : Sl W (.slice (some ⟨g, 0, none⟩) ks.length cap) 5 (ks.map K.pc) := by
  obtain ⟨cs, hb, _, hx⟩ := h
  refine ⟨_, cap, by rw [List.length_map], .inr ⟨g, 0, rfl, hb.lt, fun i hi j hj => ?_⟩⟩
  rw [List.length_map] at hi
  rw [getD_map K.pc ks hi, ← hx i hi j hj, Nat.zero_add]
  exact hb.cell _
theorem RowAt.set (h : RowAt W g ks) {i : Nat} (hi : i < ks.length) (c : K) :
    RowAt (((((W.setCell ⟨g, i * 5, none⟩ (.int .u8 c.k)).setCell ⟨g, i * 5 + 1, none⟩ (.int .u8 c.v.ty)).setCell ⟨g, i * 5 + 2, none⟩ (.int .i64 c.v.n)).setCell ⟨g, i * 5 + 3, none⟩ (.complex .f64 c.v.x c.v.y)).setCell ⟨g, i * 5 + 4, none⟩ (.string c.v.s)) g (ks.set i c) := by
  obtain ⟨cs, hb, hs, hx⟩ := h
  refine ⟨_, ((((hb.set _ _).set _ _).set _ _).set _ _).set _ _, by simpa using hs, fun q hq j hj => ?_⟩
  rw [List.length_set] at hq
  simp only [Array.getElem?_setIfInBounds, Array.size_setIfInBounds]
  by_cases e : q = i
  · subst e
    rw [List.getElem_set_self]
    have : j = 0 ∨ j = 1 ∨ j = 2 ∨ j = 3 ∨ j = 4 := by omega
    rcases this with rfl | rfl | rfl | rfl | rfl
    all_goals
      simp [K.pc]
      (try omega)
  · rw [List.getElem_set_ne (Ne.symm e), ← hx q hq j hj]
    rw [if_neg (by omega), if_neg (by omega), if_neg (by omega), if_neg (by omega), if_neg (by omega)]
theorem RowAt.mono (h : RowAt W g ks) {ls : List K} (e : ks = ls) : RowAt W g ls := e ▸ h

theorem RowAt.of_owns {base n cap : Nat} (h : W.ownsRow base 124 5 (.slice (some ⟨g, 0, none⟩) n cap) n (ks.map K.pc).flatten) (hn : ks.length = n) : RowAt W g ks := by
  obtain ⟨h1, h2⟩ := h
  rcases h2 with ⟨h3, _⟩ | ⟨g', cap', cur, hv, hg, hh, hnc, hcap, hsz, htake⟩
  · cases h3
  · simp only [Value.slice.injEq, Option.some.injEq, Addr.mk.injEq] at hv
    obtain ⟨⟨rfl, -, -⟩, -, rfl⟩ := hv
    have hfl : (ks.map K.pc).flatten.length = ks.length * 5 := by
      have := flat_length 5 (ks.map K.pc) (fun xs hxs => by simp at hxs; obtain ⟨c, _, rfl⟩ := hxs; rfl)
      rwa [List.length_map] at this
    have hct : ks.length * 5 ≤ cur.size := by
      have := congrArg List.length htake
      rw [List.length_take, hfl] at this
      simp at this
      omega
    refine ⟨cur, hh, hct, fun i hi j hj => ?_⟩
    have := flat_get 5 (ks.map K.pc) (fun xs hxs => by simp at hxs; obtain ⟨c, _, rfl⟩ := hxs; rfl) i (by simpa using hi) j hj
    rw [getD_map K.pc ks hi] at this
    rw [← this, ← htake, List.getElem?_take, if_pos (by rw [← hn]; omega)]
    simp
end

/-- make of a row. -/
theorem run_makeK (n : Nat) (hn : n ≤ 1000) (w : World) :
    ∃ cs : Array Value, (Instr.makeSlice 71 (.int .i64 (n : Int)) (.int .i64 (n : Int))).run Tryz.prog w = .ok (.slice (some ⟨w.heap.size, 0, none⟩) n n) (w.alloc (.cells cs 124)) ∧ n * 5 ≤ cs.size ∧ ∀ i, i < n → ∀ j, j < 5 → cs[i * 5 + j]? = (K.zero.pc)[j]? := by
  obtain ⟨i0, hi, hz0, hz1, hz2⟩ := info_parts Tryz.infoCellP
  have hr := run_make (P := Tryz.prog) w 71 124 i0 _ Tryz.underlying71 hi hz0 .i64 .i64 (n : Int) (n : Int) (by omega) (by omega) (by rw [hz2]; omega) (by omega)
  simp only [Int.toNat_natCast, hz1] at hr
  refine ⟨_, hr, by rw [size_madeCells]; exact Nat.le_refl _, fun i hi j hj => ?_⟩
  have hlt : i * 5 + j < n * 5 := by omega
  have hm : (i * 5 + j) % 5 = j := by omega
  have : j = 0 ∨ j = 1 ∨ j = 2 ∨ j = 3 ∨ j = 4 := by omega
  simp only [madeCells, Array.getElem?_map, Array.getElem?_range, hlt]
  rcases this with rfl | rfl | rfl | rfl | rfl <;> simp [Value.cells, K.pc, K.zero, V.zero, hm]

end Go.Proofs.YtdgalkljngigeaaGreat
