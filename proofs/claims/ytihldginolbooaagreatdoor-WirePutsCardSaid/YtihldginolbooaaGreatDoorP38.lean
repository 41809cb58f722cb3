/-
The laws' Back of an event.
-/
import Derived.Test.YtihldginolbooaaGreatDoorP8
import Derived.Test.YtihldginolbooaaGreatDoorP21
import Derived.Test.YtihldginolbooaaGreatDoorP37
import Derived.Test.YtihldginolbooaaGreatDoorP19
namespace Go.Proofs.YtihldginolbooaaGreatDoor
open Go.RowKit

theorem Tryz.infoRRfE : (Tryz.prog.info? 26).map (fun i => (i.zero, i.size, i.bytes)) = some (some (.agg #[.int .u32 0, .int .u32 0]), 2, 8) := by kernel_rfl

set_option maxRecDepth 100000 in set_option maxHeartbeats 1600000 in
theorem backK_own (l : List K) (a : Option Addr) (cap : Nat) (w : World) (hl : Sl w (.slice a l.length cap) 5 (l.map K.pc)) (hlen : l.length ≤ 1000) :
    Calls Tryz.prog 73 #[.slice a l.length cap] w fun e w' => ∃ a' cap', e = .returned (.slice a' l.length cap') ∧ w'.ownsRow w.heap.size 123 6 (.slice a' l.length cap') l.length (l.map K.rc).flatten ∧ Ext w w' := by
  have HL := Hid.mk' hl
  clear hl
  obtain ⟨i0, hi, hz0, hz1, hz2⟩ := info_parts Tryz.infoCellR
  go_enter Tryz.func73, Tryz.ntmps73
  go_wp2
  go_loopw [3, 4] (fun v i wr => ∃ k : Nat, k ≤ l.length ∧ i = .int .i64 k ∧ Hid (wr.ownsRow w.heap.size 123 6 v k ((l.map K.rc).take k).flatten) ∧ Hid (Ext w wr)) (fun _ i _ => l.length - (intOf i).toNat)
  case atStart => exact ⟨0, Nat.zero_le _, rfl, World.ownsRow_nil _ _ _ _, Ext.refl _⟩
  case round =>
    obtain ⟨k, hk, rfl, hown, hE⟩ := hrel
    by_cases hlt : k < l.length
    · obtain ⟨b, o, rfl, hb, hx⟩ := HL.out.at_ (i := k) (by simpa using hlt)
      obtain ⟨f0, f1, f2, f3, f4⟩ := K.pcAt hlt hx hb hE.out
      have hbw : b < wr.heap.size := Nat.lt_of_lt_of_le hb hE.out.size
      have HT := Hid.mk' (flat_snoc (f := K.rc) hlt)
      have HC := Hid.mk' (fun w => cback_any l[k].k l[k].v.ty l[k].v.n l[k].v.x l[k].v.y l[k].v.s w)
      obtain ⟨c, hc⟩ : ∃ c, c = l[k] := ⟨_, rfl⟩
      rw [← hc] at f0 f1 f2 f3 f4 HT HC
      clear hc hx
      go_wp2_with (first
        | (go_at_call 98; refine (HC.out _).mono ?_; rintro e w1 ⟨rfl, hb1⟩; have HB1 := Hid.mk' hb1; have hz1' := hb1.size; clear hb1)
        | (at_builtin; refine wpList_append_own _ rfl _ _ 30 rfl w.heap.size 123 i0 _ 6 56 Tryz.underlying30 hi hz0 hz1 hz2 rfl (by decide) _ _ _ rfl ((owns_ext hown.out HB1.out).alloc _) ⟨_, 0, none⟩ 1 1 c.rc rfl rfl ?c1 ?c2 ?c3 ?c4 ?c5 ?_))
      case c1 => exact cells_new _ #[.int .u8 c.k, .int .u8 c.v.ty, .int .i64 c.v.n, .int .u64 c.v.x, .int .u64 c.v.y, .string c.v.s] _
      case c2 => intro u hu; simp [K.rc] at hu; rcases hu with rfl | rfl | rfl | rfl | rfl | rfl <;> rfl
      case c3 => unfold maxLen; omega
      case c4 => omega
      case c5 => have := (hE.out.trans HB1.out).size; simp; omega
      · intro v' w2 hown' hgrow _
        have HE2 := Hid.mk' (((hE.out.trans HB1.out).alloc _).grown ((owns_ext hown.out HB1.out).alloc _) hgrow)
        have HO2 := Hid.mk' hown'
        clear hown' hgrow
        go_wp2
        go_roundw
        case rel => exact ⟨k + 1, by omega, by go_num, Hid.mk' (by rw [HT.out]; exact HO2.out), HE2⟩
        case measure => simp [intOf]; omega
    · have hkk : k = l.length := by omega
      subst hkk
      rw [show l.length = (l.map K.rc).length by simp, List.take_length] at hown
      rw [List.length_map] at hown
      obtain ⟨a', c', rfl⟩ := owns_shape hown.out
      go_wp2
      go_ret
      exact ⟨a', c', rfl, hown.out, hE.out⟩

theorem backK_fr (l : List K) (a : Option Addr) (cap : Nat) (w : World) (hl : Sl w (.slice a l.length cap) 5 (l.map K.pc)) (hlen : l.length ≤ 1000) :
    Calls Tryz.prog 73 #[.slice a l.length cap] w fun e w' => ∃ a' cap', e = .returned (.slice a' l.length cap') ∧ l.length ≤ cap' ∧ Fr w' w.heap.size w'.heap.size (.slice a' l.length cap') 6 (l.map K.rc) ∧ Ext w w' := by
  refine (backK_own l a cap w hl hlen).mono fun e w' h => ?_
  obtain ⟨a', c', h1, h2, h3⟩ := h
  exact ⟨a', c', h1, owns_cap h2, Fr.new (Sl.of_owns (base := w.heap.size) (e := 123) (by rw [List.length_map]; exact h2) (by intro xs hxs; simp at hxs; obtain ⟨a, _, rfl⟩ := hxs; rfl)) (fun b o e => (h2.lt b (by rw [e]; rfl)).1), h3⟩

set_option maxRecDepth 100000 in set_option maxHeartbeats 4000000 in
theorem eback_any (kind ao av old : Int) (lb la : List K) (rs : List Rf) (fl : Int) (ba aa ra : Option Addr) (bc ac rc : Nat) (w : World) (hb : Sl w (.slice ba lb.length bc) 5 (lb.map K.pc)) (ha : Sl w (.slice aa la.length ac) 5 (la.map K.pc)) (hr : Sl w (.slice ra rs.length rc) 2 (rs.map Rf.cells)) (hnb : lb.length ≤ 1000) (hna : la.length ≤ 1000) (hnr : rs.length ≤ 1000) :
    Calls Tryz.prog 42 #[.agg #[.int .u8 kind, .int .u32 ao, .int .u32 av, .int .u8 old, .slice ba lb.length bc, .slice aa la.length ac, .slice ra rs.length rc, .int .u8 fl]] w fun e w' => ∃ b1 c1 a1 d1 r1 e1, e = .returned (.agg #[.int .u8 kind, .int .u32 ao, .int .u32 av, .int .u8 old, .slice b1 lb.length c1, .slice a1 la.length d1, .slice r1 rs.length e1, .int .u8 fl]) ∧ (⟨⟨kind, ao, av, old, lb, la, rs, fl⟩, b1, c1, a1, d1, r1, e1⟩ : EL).at 6 K.rc w' ∧ (⟨⟨kind, ao, av, old, lb, la, rs, fl⟩, b1, c1, a1, d1, r1, e1⟩ : EL).on (fun b => w.heap.size ≤ b) ∧ Ext w w' := by
  obtain ⟨i0, hi, hz0, hz1, hz2⟩ := info_parts Tryz.infoRRfE
  have HOB := Hid.mk' (fun W (h : Ext w W) => backK_fr lb ba bc W (hb.ext h) hnb)
  have HOA := Hid.mk' (fun W (h : Ext w W) => backK_fr la aa ac W (ha.ext h) hna)
  have HR := Hid.mk' hr
  clear hb ha hr
  go_enter Tryz.func42, Tryz.ntmps42
  go_upto_region 1 with (fail)
  go_cut [3] (fun p wx => ∃ X b1 c1 a1 d1, p = .pointer (some ⟨X, 0, none⟩) ∧ Hid (Blk wx X #[.int .u8 kind, .int .u32 ao, .int .u32 av, .int .u8 old, .slice b1 lb.length c1, .slice a1 la.length d1, .slice none 0 0, .int .u8 fl] 33) ∧ Hid (Sl wx (.slice b1 lb.length c1) 6 (lb.map K.rc)) ∧ Hid (Sl wx (.slice a1 la.length d1) 6 (la.map K.rc)) ∧ Hid (lb.map K.rc ≠ [] → ∀ b o, b1 = some ⟨b, o, none⟩ → b ≠ X ∧ w.heap.size + 1 < b) ∧ Hid (la.map K.rc ≠ [] → ∀ b o, a1 = some ⟨b, o, none⟩ → b ≠ X ∧ w.heap.size + 1 < b) ∧ Hid (w.heap.size + 1 < X) ∧ Hid (Ext ((w.alloc (.cells #[.int .u8 kind, .int .u32 ao, .int .u32 av, .int .u8 old, .slice ba lb.length bc, .slice aa la.length ac, .slice ra rs.length rc, .int .u8 fl] 54)).alloc (.cells #[.int .u8 0, .int .u32 0, .int .u32 0, .int .u8 0, .slice none 0 0, .slice none 0 0, .slice none 0 0, .int .u8 0] 33)) wx))
  case first =>
    go_region_held3 (fun w' => Ext (((w.alloc (.cells #[.int .u8 kind, .int .u32 ao, .int .u32 av, .int .u8 old, .slice ba lb.length bc, .slice aa la.length ac, .slice ra rs.length rc, .int .u8 fl] 54)).alloc (.cells #[.int .u8 0, .int .u32 0, .int .u32 0, .int .u8 0, .slice none 0 0, .slice none 0 0, .slice none 0 0, .int .u8 0] 33))) w' ∧ (∀ b o, b < (((w.alloc (.cells #[.int .u8 kind, .int .u32 ao, .int .u32 av, .int .u8 old, .slice ba lb.length bc, .slice aa la.length ac, .slice ra rs.length rc, .int .u8 fl] 54)).alloc (.cells #[.int .u8 0, .int .u32 0, .int .u32 0, .int .u8 0, .slice none 0 0, .slice none 0 0, .slice none 0 0, .int .u8 0] 33))).heap.size → w'.cell? ⟨b, o, none⟩ = (((w.alloc (.cells #[.int .u8 kind, .int .u32 ao, .int .u32 av, .int .u8 old, .slice ba lb.length bc, .slice aa la.length ac, .slice ra rs.length rc, .int .u8 fl] 54)).alloc (.cells #[.int .u8 0, .int .u32 0, .int .u32 0, .int .u8 0, .slice none 0 0, .slice none 0 0, .slice none 0 0, .int .u8 0] 33))).cell? ⟨b, o, none⟩) ∧ (∀ b o, b < (((w.alloc (.cells #[.int .u8 kind, .int .u32 ao, .int .u32 av, .int .u8 old, .slice ba lb.length bc, .slice aa la.length ac, .slice ra rs.length rc, .int .u8 fl] 54)).alloc (.cells #[.int .u8 0, .int .u32 0, .int .u32 0, .int .u8 0, .slice none 0 0, .slice none 0 0, .slice none 0 0, .int .u8 0] 33))).heap.size → w'.frozen? ⟨b, o, none⟩ = (((w.alloc (.cells #[.int .u8 kind, .int .u32 ao, .int .u32 av, .int .u8 old, .slice ba lb.length bc, .slice aa la.length ac, .slice ra rs.length rc, .int .u8 fl] 54)).alloc (.cells #[.int .u8 0, .int .u32 0, .int .u32 0, .int .u8 0, .slice none 0 0, .slice none 0 0, .slice none 0 0, .int .u8 0] 33))).frozen? ⟨b, o, none⟩)) ((exact held_of (by exact eX)))
      (first
        | (go_at_call_of 73 (Value.slice ba lb.length bc); refine (HOB.out _ (by exact eX)).mono ?_; rintro e w3 ⟨b1, c1, rfl, -, hs3, hb3⟩; have H3 := Hid.mk' hs3; clear hs3; obtain ⟨hc3, hf3⟩ := hb3.cells; have hz3 := hb3.size; (try simp at hz3); have q3 : w.heap.size + 1 < w3.heap.size := (by omega); (try have q23 : w2.heap.size < w3.heap.size := (by omega)); (try have p3 : w.heap.size + 1 + 1 < w3.heap.size := (by omega)))
        | (go_at_call_of 73 (Value.slice aa la.length ac); refine (HOA.out _ (by exact eX)).mono ?_; rintro e w4 ⟨a1, d1, rfl, -, hs4, hb4⟩; have H4 := Hid.mk' hs4; clear hs4; obtain ⟨hc4, hf4⟩ := hb4.cells; have hz4 := hb4.size; (try simp at hz4); have q4 : w.heap.size + 1 < w4.heap.size := (by omega); (try have p4 : w.heap.size + 1 + 1 < w4.heap.size := (by omega)); (try have q24 : w2.heap.size < w4.heap.size := (by omega)); (try have q35 : w3.heap.size < w4.heap.size := (by omega))))
    all_goals
      go_wp2
      go_meet
      case rel =>
        refine ⟨_, b1, c1, a1, d1, rfl, Hid.mk' ?_, Hid.mk' ?_, Hid.mk' ?_, Hid.mk' ?_, Hid.mk' ?_, Hid.mk' ?_, Hid.mk' ?_⟩
        · repeat (with_reducible (first | exact Blk.new _ _ _ | (refine Blk.new' _ _ ?_; (simp; done)) | apply Blk.eight | refine Blk.alloc ?_ _ | refine Blk.drew ?_ | refine Blk.ext ?_ hb4 | refine Blk.ext ?_ hb3))
        · first | ((with_reducible refine Fr.sl (Fr.eight (Fr.ext H3.out ?_) ?_)); (· exact eX); (· first | (simp; done) | (simp; omega) | omega | (left; simp; done) | (left; simp; omega) | (right; simp; done) | (right; simp; omega))) | ((with_reducible refine Fr.sl (Fr.ext H3.out ?_)); · exact eX)
        · first | ((with_reducible refine Fr.sl (Fr.eight (Fr.ext H4.out ?_) ?_)); (· exact eX); (· first | (simp; done) | (simp; omega) | omega | (left; simp; done) | (left; simp; omega) | (right; simp; done) | (right; simp; omega))) | ((with_reducible refine Fr.sl (Fr.ext H4.out ?_)); · exact eX)
        · refine fun h0 => Fr.ne2 H3.out ?_ ?_ h0; (· first | (simp; done) | (simp; omega) | omega | (left; simp; done) | (left; simp; omega) | (right; simp; done) | (right; simp; omega)); (· first | omega | (simp; omega) | simp)
        · refine fun h0 => Fr.ne2 H4.out ?_ ?_ h0; (· first | (simp; done) | (simp; omega) | omega | (left; simp; done) | (left; simp; omega) | (right; simp; done) | (right; simp; omega)); (· first | omega | (simp; omega) | simp)
        · first | omega | (simp; omega) | simp
        · first | exact eX | (repeat (with_reducible refine Ext.setCell ?_ (by first | (simp; done) | (simp; omega) | omega) _); exact eX)
  case rest =>
    obtain ⟨X, b1, c1, a1, d1, rfl, HX, HSB, HSA, HNB, HNA, HWX, HE⟩ := hcut
    have HEc := Hid.mk' (show Ext w wc from (((Ext.refl w).alloc _).alloc _).trans HE.out)
    have HB1 := Hid.mk' (((Blk.new w #[.int .u8 kind, .int .u32 ao, .int .u32 av, .int .u8 old, .slice ba lb.length bc, .slice aa la.length ac, .slice ra rs.length rc, .int .u8 fl] 54).alloc (.cells #[.int .u8 0, .int .u32 0, .int .u32 0, .int .u8 0, .slice none 0 0, .slice none 0 0, .slice none 0 0, .int .u8 0] 33)).ext HE.out)
    have HB2 := Hid.mk' ((Blk.new' (w := w.alloc (.cells #[.int .u8 kind, .int .u32 ao, .int .u32 av, .int .u8 old, .slice ba lb.length bc, .slice aa la.length ac, .slice ra rs.length rc, .int .u8 fl] 54)) (b := w.heap.size + 1) #[.int .u8 0, .int .u32 0, .int .u32 0, .int .u8 0, .slice none 0 0, .slice none 0 0, .slice none 0 0, .int .u8 0] 33 (by simp)).ext HE.out)
    clear HOB HOA
    have hzX : X < wc.heap.size := HX.out.lt
    have hzw : w.heap.size < X := by have := HWX.out; omega
    have HZX := Hid.mk' (And.intro hzX hzw)
    clear HE
    go_wp2
    go_loopw [4] (fun i wr => ∃ (k : Nat) (va : Option Addr) (vc : Nat), k ≤ rs.length ∧ i = .int .i64 k ∧ Hid (Blk wr X #[.int .u8 kind, .int .u32 ao, .int .u32 av, .int .u8 old, .slice b1 lb.length c1, .slice a1 la.length d1, .slice va k vc, .int .u8 fl] 33) ∧ Hid (wr.ownsRow wc.heap.size 26 2 (.slice va k vc) k ((rs.take k).map Rf.cells).flatten) ∧ Hid (Kp (fun x => x = X) wc wr)) (fun i _ => rs.length - (intOf i).toNat)
    case atStart => exact ⟨0, none, 0, Nat.zero_le _, rfl, HX, Hid.mk' (World.ownsRow_nil _ _ _ _), Hid.mk' Kp.refl⟩
    case round =>
      obtain ⟨k, va, vc, hk, rfl, hX, hown, hK⟩ := hrel
      have HEW : Hid (Ext w wr) := Hid.mk' (Kp.ext HEc.out (fun x hx _ => by have := HZX.out.2; omega) hK.out)
      have HG1 : Hid (Blk wr w.heap.size #[.int .u8 kind, .int .u32 ao, .int .u32 av, .int .u8 old, .slice ba lb.length bc, .slice aa la.length ac, .slice ra rs.length rc, .int .u8 fl] 54) := Hid.mk' (HB1.out.kp hK.out (by have := HZX.out.2; omega))
      have g1 := HG1.out.cell
      have z1 := HG1.out.lt
      have gX := hX.out.cell
      have gXf := hX.out.frozen
      have zX := hX.out.lt
      have hzc := hK.out.size
      by_cases hlt : k < rs.length
      · obtain ⟨b, o, rfl, hb, hx⟩ := HR.out.at_ (i := k) (by simpa using hlt)
        have HF := Hid.mk' (fun W (h : Ext w W) => Rf.at_ hlt hx hb h)
        have HT : Hid (rs.take (k + 1) = rs.take k ++ [rs[k]]) := Hid.mk' (List.take_succ_eq_append_getElem hlt)
        obtain ⟨r, hr⟩ : ∃ r, r = rs[k] := ⟨_, rfl⟩
        rw [← hr] at HF HT
        have HLT : Hid (k < rs.length) := Hid.mk' hlt
        have HBW : Hid (b < w.heap.size) := Hid.mk' hb
        clear hx hr hb
        have HS : Hid (∀ w', Kp (fun x => wc.heap.size ≤ x) wr w' → (∀ j, w'.cell? ⟨w.heap.size, j, none⟩ = (#[.int .u8 kind, .int .u32 ao, .int .u32 av, .int .u8 old, .slice ba lb.length bc, .slice aa la.length ac, .slice (some ⟨b, o, none⟩) rs.length rc, .int .u8 fl])[j]?) ∧ (∀ j, w'.cell? ⟨X, j, none⟩ = (#[.int .u8 kind, .int .u32 ao, .int .u32 av, .int .u8 old, .slice b1 lb.length c1, .slice a1 la.length d1, .slice va k vc, .int .u8 fl])[j]?) ∧ (∀ j, w'.frozen? ⟨X, j, none⟩ = false) ∧ w'.cell? ⟨b, o + k * 2, none⟩ = some (.int .u32 r.o) ∧ w'.cell? ⟨b, o + k * 2 + 1, none⟩ = some (.int .u32 r.v) ∧ b < w'.heap.size ∧ X < w'.heap.size ∧ w.heap.size < w'.heap.size) := Hid.mk' (fun w' h => by
          have hE : Ext w w' := Kp.ext HEc.out (S := fun x => x = X ∨ wc.heap.size ≤ x) (fun x hx _ => by have := HZX.out; omega) ((hK.out.mono (T := fun x => x = X ∨ wc.heap.size ≤ x) (fun x hx _ => .inl hx)).trans h (fun x hx _ => .inr hx))
          have h1 := HG1.out.kp h (by have := HZX.out; omega)
          have h2 := hX.out.kp h (by have := HZX.out; omega)
          obtain ⟨f0, f1⟩ := HF.out w' hE
          exact ⟨h1.cell, h2.cell, h2.frozen, f0, f1, Nat.lt_of_lt_of_le HBW.out hE.size, h2.lt, h1.lt⟩)
        have HOWN := hown
        go_wp2
        clear g1 gX gXf
        have hA0 : Hid ((fun w' => (∀ j, w'.cell? ⟨w.heap.size, j, none⟩ = (#[.int .u8 kind, .int .u32 ao, .int .u32 av, .int .u8 old, .slice ba lb.length bc, .slice aa la.length ac, .slice (some ⟨b, o, none⟩) rs.length rc, .int .u8 fl])[j]?) ∧ (∀ j, w'.cell? ⟨X, j, none⟩ = (#[.int .u8 kind, .int .u32 ao, .int .u32 av, .int .u8 old, .slice b1 lb.length c1, .slice a1 la.length d1, .slice va k vc, .int .u8 fl])[j]?) ∧ (∀ j, w'.frozen? ⟨X, j, none⟩ = false) ∧ w'.cell? ⟨b, o + k * 2, none⟩ = some (.int .u32 r.o) ∧ w'.cell? ⟨b, o + k * 2 + 1, none⟩ = some (.int .u32 r.v) ∧ b < w'.heap.size ∧ X < w'.heap.size ∧ w.heap.size < w'.heap.size) wr.drew) := Hid.mk' (HS.out _ (Kp.of_ext (Ext.refl wr).drew))
        refine wp_region_head 17 (fun w' => (∀ j, w'.cell? ⟨w.heap.size, j, none⟩ = (#[.int .u8 kind, .int .u32 ao, .int .u32 av, .int .u8 old, .slice ba lb.length bc, .slice aa la.length ac, .slice (some ⟨b, o, none⟩) rs.length rc, .int .u8 fl])[j]?) ∧ (∀ j, w'.cell? ⟨X, j, none⟩ = (#[.int .u8 kind, .int .u32 ao, .int .u32 av, .int .u8 old, .slice b1 lb.length c1, .slice a1 la.length d1, .slice va k vc, .int .u8 fl])[j]?) ∧ (∀ j, w'.frozen? ⟨X, j, none⟩ = false) ∧ w'.cell? ⟨b, o + k * 2, none⟩ = some (.int .u32 r.o) ∧ w'.cell? ⟨b, o + k * 2 + 1, none⟩ = some (.int .u32 r.v) ∧ b < w'.heap.size ∧ X < w'.heap.size ∧ w.heap.size < w'.heap.size) (by kernel_rfl) (by decide) ?_
        (refine wpHd_take (i := 0) (v := ?_) rfl (by kernel_rfl) (by kernel_rfl) (by kernel_rfl) (fun _ _ _ h => h) (Or.inl ⟨by rfl, ?_⟩) hA0.out ?_; rotate_left 1; · (intro w' hS'; (try dsimp only at hS'); go_split_ands; go_simp; try with_reducible rfl))
        (refine wpHd_take (i := 1) (v := ?_) rfl (by kernel_rfl) (by kernel_rfl) (by kernel_rfl) (fun _ _ _ h => h) (Or.inl ⟨by rfl, ?_⟩) hA0.out ?_; rotate_left 1; · (intro w' hS'; (try dsimp only at hS'); go_split_ands; go_simp; try with_reducible rfl))
        (refine wpHd_take (i := 2) (v := ?_) rfl (by kernel_rfl) (by kernel_rfl) (by kernel_rfl) (fun _ _ _ h => h) (Or.inl ⟨by rfl, ?_⟩) hA0.out ?_; rotate_left 1; · (intro w' hS'; (try dsimp only at hS'); go_split_ands; go_simp; try with_reducible rfl))
        (refine wpHd_take (i := 3) (v := ?_) rfl (by kernel_rfl) (by kernel_rfl) (by kernel_rfl) (fun _ _ _ h => h) (Or.inl ⟨by rfl, ?_⟩) hA0.out ?_; rotate_left 1; · (intro w' hS'; (try dsimp only at hS'); go_split_ands; go_simp; try with_reducible rfl))
        (refine wpHd_take (i := 4) (v := ?_) rfl (by kernel_rfl) (by kernel_rfl) (by kernel_rfl) (fun _ _ _ h => h) (Or.inl ⟨by rfl, ?_⟩) hA0.out ?_; rotate_left 1; · (intro w' hS'; (try dsimp only at hS'); go_split_ands; go_simp; try with_reducible rfl))
        (refine wpHd_take (i := 5) (v := ?_) rfl (by kernel_rfl) (by kernel_rfl) (by kernel_rfl) (fun _ _ _ h => h) (Or.inl ⟨by rfl, ?_⟩) hA0.out ?_; rotate_left 1; · (intro w' hS'; (try dsimp only at hS'); go_split_ands; go_simp; try with_reducible rfl))
        (refine wpHd_take (i := 6) (v := ?_) rfl (by kernel_rfl) (by kernel_rfl) (by kernel_rfl) (fun _ _ _ h => h) (Or.inl ⟨by rfl, ?_⟩) hA0.out ?_; rotate_left 1; · (intro w' hS'; (try dsimp only at hS'); go_split_ands; go_simp; try with_reducible rfl))
        (refine wpHd_take (i := 7) (v := ?_) rfl (by kernel_rfl) (by kernel_rfl) (by kernel_rfl) (fun _ _ _ h => h) (Or.inl ⟨by rfl, ?_⟩) hA0.out ?_; rotate_left 1; · (intro w' hS'; (try dsimp only at hS'); go_split_ands; go_simp; try with_reducible rfl))
        (refine wpHd_take (i := 8) (v := ?_) rfl (by kernel_rfl) (by kernel_rfl) (by kernel_rfl) (fun _ _ _ h => h) (Or.inl ⟨by rfl, ?_⟩) hA0.out ?_; rotate_left 1; · (intro w' hS'; (try dsimp only at hS'); go_split_ands; go_simp; try with_reducible rfl))
        (refine wpHd_take (i := 9) (v := ?_) rfl (by kernel_rfl) (by kernel_rfl) (by kernel_rfl) (fun _ _ _ h => h) (Or.inl ⟨by rfl, ?_⟩) hA0.out ?_; rotate_left 1; · (intro w' hS'; (try dsimp only at hS'); go_split_ands; go_simp; try with_reducible rfl))
        (refine wpHd_take (i := 10) (v := ?_) rfl (by kernel_rfl) (by kernel_rfl) (by kernel_rfl) (fun _ _ _ h => h) (Or.inl ⟨by rfl, ?_⟩) hA0.out ?_; rotate_left 1; · (intro w' hS'; (try dsimp only at hS'); go_split_ands; go_simp; try with_reducible rfl))
        (refine wpHd_take (i := 11) (v := ?_) rfl (by kernel_rfl) (by kernel_rfl) (by kernel_rfl) (fun _ _ _ h => h) (Or.inl ⟨by rfl, ?_⟩) hA0.out ?_; rotate_left 1; · (intro w' hS'; (try dsimp only at hS'); go_split_ands; go_simp; try with_reducible rfl))
        (refine wpHd_take (i := 12) (v := ?_) rfl (by kernel_rfl) (by kernel_rfl) (by kernel_rfl) (fun _ _ _ h => h) (Or.inl ⟨by rfl, ?_⟩) hA0.out ?_; rotate_left 1; · (intro w' hS'; (try dsimp only at hS'); go_split_ands; go_simp; try with_reducible rfl))
        (refine wpHd_take (i := 13) (v := ?_) rfl (by kernel_rfl) (by kernel_rfl) (by kernel_rfl) (fun _ _ _ h => h) (Or.inl ⟨by rfl, ?_⟩) hA0.out ?_; rotate_left 1; · (intro w' hS'; (try dsimp only at hS'); go_split_ands; go_simp; try with_reducible rfl))
        (refine wpHd_take (i := 14) (v := ?_) rfl (by kernel_rfl) (by kernel_rfl) (by kernel_rfl) (fun _ _ _ h => h) (Or.inl ⟨by rfl, ?_⟩) hA0.out ?_; rotate_left 1; · (intro w' hS'; (try dsimp only at hS'); go_split_ands; go_simp; try with_reducible rfl))
        have HB7 : Hid (Ext wr wr.drew) := Hid.mk' (Ext.refl wr).drew
        clear hA0
        refine wpHd_one (i := 15) rfl rfl (by kernel_rfl) (fun K hK => ?_)
        go_simp
        refine hK.out _ _ (HS.out _ (Kp.of_ext (HB7.out.alloc _))) (fun hA => ?_)
        clear hK K hA
        refine wpHd_one (i := 16) rfl rfl (by kernel_rfl) (fun K hK => ?_)
        refine wp_append_lies _ _ _ 31 (by rfl) wc.heap.size 26 i0 _ 2 8 Tryz.underlying31 hi hz0 hz1 hz2 rfl (by decide) (.slice va k vc) k _ (by rfl) (owns_ext HOWN.out (HB7.out.alloc _)) ⟨_, 0, none⟩ 1 1 r.cells (by rfl) rfl (cells_new _ #[.int .u32 r.o, .int .u32 r.v] _) (by intro u hu; simp [Rf.cells] at hu; rcases hu with rfl | rfl <;> rfl) (by decide) (by unfold maxLen; omega) (by omega) (by have := HB7.out.size; simp; omega) _ rfl ?_
        intro g4 cap4 w4 hown4 hgrow4 hat4 hlt4
        have HO4 := Hid.mk' hown4
        have HKG : Hid (Kp (fun x => wc.heap.size ≤ x) wr w4) := Hid.mk' ((Kp.of_ext (S := fun x => wc.heap.size ≤ x) (HB7.out.alloc _)).trans (Kp.of_grown hgrow4) (fun x hx _ => (HOWN.out.lt x hx).1))
        refine hK.out _ _ (HS.out _ HKG.out) (fun hA => ?_)
        clear hK K hA hown4 hgrow4 hat4 hlt4
        have hX4 : Hid (Blk w4 X #[.int .u8 kind, .int .u32 ao, .int .u32 av, .int .u8 old, .slice b1 lb.length c1, .slice a1 la.length d1, .slice va k vc, .int .u8 fl] 33) := Hid.mk' (hX.out.kp HKG.out (by have := HZX.out; omega))
        have gX := hX4.out.cell
        have gXf := hX4.out.frozen
        have zX := hX4.out.lt
        refine wpHd_tail (by kernel_rfl) ?_
        simp only [List.drop_succ_cons, List.drop_zero]
        go_wp2
        go_roundw
        case rel =>
          refine ⟨k + 1, some ⟨g4, 0, none⟩, cap4, by have := HLT.out; omega, by go_num, Hid.mk' ?_, Hid.mk' ?_, Hid.mk' ?_⟩
          · have := hX4.out.set 6 (.slice (some ⟨g4, 0, none⟩) (k + 1) cap4)
            simpa only [List.setIfInBounds_toArray, List.set_cons_zero, List.set_cons_succ] using this
          · rw [HT.out, List.map_append, List.flatten_append]
            exact owns_set (by simpa using HO4.out) (by show X < _; have := HZX.out; omega) _
          · exact ((hK.out.mono (T := fun x => x = X) (fun x hx _ => hx)).trans (HKG.out) (fun x hx h => by omega)).trans (T := fun x => x = X) (Kp.set _ _ rfl) (fun x hx _ => hx)
        case measure => have := HLT.out; simp [intOf]; omega
      · obtain rfl : k = rs.length := by omega
        rw [List.take_length] at hown
        have HB2r : Hid (Blk wr (w.heap.size + 1) #[.int .u8 0, .int .u32 0, .int .u32 0, .int .u8 0, .slice none 0 0, .slice none 0 0, .slice none 0 0, .int .u8 0] 33) := Hid.mk' (HB2.out.kp hK.out (by have := HWX.out; omega))
        have k2 := HB2r.out.cell
        have k2f := HB2r.out.frozen
        have z2 := HB2r.out.lt
        go_wp2
        simp [bodyPost, results, Tryz.results42, go_sem, *]
        have hwr := HZX.out
        have hw2 := HWX.out
        have hSB : Sl wr (.slice b1 lb.length c1) 6 (lb.map K.rc) := Sl.kp HSB.out hK.out (fun h0 b o e => (HNB.out h0 b o e).1)
        have hSA : Sl wr (.slice a1 la.length d1) 6 (la.map K.rc) := Sl.kp HSA.out hK.out (fun h0 b o e => (HNA.out h0 b o e).1)
        have hSR : Sl wr (.slice va rs.length vc) 2 (rs.map Rf.cells) := Sl.of_owns (base := wc.heap.size) (e := 26) (by rw [List.length_map]; exact hown.out) (by intro xs hxs; simp at hxs; obtain ⟨_, _, rfl⟩ := hxs; rfl)
        refine ⟨b1, c1, a1, d1, va, vc, ⟨⟨rfl, rfl⟩, ⟨rfl, rfl⟩, rfl, rfl⟩, ⟨Sl.kp hSB Kp.eight (fun h0 b o e => by have := (HNB.out h0 b o e).2; omega), Sl.kp hSA Kp.eight (fun h0 b o e => by have := (HNA.out h0 b o e).2; omega), Sl.kp hSR Kp.eight (fun h0 b o e => by have := hown.out.lt b (by rw [show va = some ⟨b, o, none⟩ from e]; rfl); omega)⟩, ⟨fun h0 b o e => by have := (HNB.out (fun q => h0 (by simpa using q)) b o e).2; omega, fun h0 b o e => by have := (HNA.out (fun q => h0 (by simpa using q)) b o e).2; omega, fun h0 b o e => by have := hown.out.lt b (by rw [show va = some ⟨b, o, none⟩ from e]; rfl); omega⟩, Kp.ext HEW.out (fun x hx _ => by omega) Kp.eight⟩

end Go.Proofs.YtihldginolbooaaGreatDoor

/-
A message stored turns its block alone.
-/
namespace Go.Proofs.YtihldginolbooaaGreatDoor
open Go.RowKit

theorem Kp.c17 {W : World} {b : Nat} {v0 v1 v2 v3 v4 v5 v6 v7 v8 v9 v10 v11 v12 v13 v14 v15 v16 : Value} : Kp (fun x => x = b) W (((((((((((((((((W.setCell ⟨b, 0, none⟩ v0).setCell ⟨b, 1, none⟩ v1).setCell ⟨b, 2, none⟩ v2).setCell ⟨b, 3, none⟩ v3).setCell ⟨b, 4, none⟩ v4).setCell ⟨b, 5, none⟩ v5).setCell ⟨b, 6, none⟩ v6).setCell ⟨b, 7, none⟩ v7).setCell ⟨b, 8, none⟩ v8).setCell ⟨b, 9, none⟩ v9).setCell ⟨b, 10, none⟩ v10).setCell ⟨b, 11, none⟩ v11).setCell ⟨b, 12, none⟩ v12).setCell ⟨b, 13, none⟩ v13).setCell ⟨b, 14, none⟩ v14).setCell ⟨b, 15, none⟩ v15).setCell ⟨b, 16, none⟩ v16) := by
  iterate 17 refine Kp.trans ?_ (Kp.set (S := fun x => x = b) _ _ rfl) (fun _ hx _ => hx)
  exact Kp.refl

end Go.Proofs.YtihldginolbooaaGreatDoor

/-
A message of the document as the program's: the laws' Own.
-/
namespace Go.Proofs.YtihldginolbooaaGreatDoor
open Go.RowKit

set_option maxRecDepth 20000 in
theorem res_lown20 {W : World} {b : Nat} {v0 v1 v2 v3 v4 v5 v6 v7 v8 v9 v10 v11 v12 v13 v14 v15 v16 : Value} {tm : Array Value} (h : Blk W b #[v0, v1, v2, v3, v4, v5, v6, v7, v8, v9, v10, v11, v12, v13, v14, v15, v16] 56) (ht : tm.getD 2 undef = .pointer (some ⟨b, 0, none⟩)) :
    (results Tryz.f9 tm).run Tryz.prog W = .ok (.agg #[v0, v1, v2, v3, v4, v5, v6, v7, v8, v9, v10, v11, v12, v13, v14, v15, v16]) W := by
  have c := h.cell
  have c0 := c 0
  have c1 := c 1
  have c2 := c 2
  have c3 := c 3
  have c4 := c 4
  have c5 := c 5
  have c6 := c 6
  have c7 := c 7
  have c8 := c 8
  have c9 := c 9
  have c10 := c 10
  have c11 := c 11
  have c12 := c 12
  have c13 := c 13
  have c14 := c 14
  have c15 := c 15
  have c16 := c 16
  clear c h
  simp at c0 c1 c2 c3 c4 c5 c6 c7 c8 c9 c10 c11 c12 c13 c14 c15 c16
  rw [Array.getD_eq_getD_getElem?] at ht
  simp [results, Tryz.results9, go_sem, ht, c0, c1, c2, c3, c4, c5, c6, c7, c8, c9, c10, c11, c12, c13, c14, c15, c16]

set_option maxRecDepth 100000 in set_option maxHeartbeats 8000000 in
theorem lown20_any (p : ML) (w : World) (hp : p.at 6 K.rc w) (hlen : p.r.r.cols.length ≤ 1000) (hs : p.e.e.small) :
    Calls Tryz.prog 9 #[p.agg] w fun e w' => ∃ q : ML, e = .returned q.agg ∧ q.m = p.m ∧ q.at 5 K.pc w' ∧ q.r.r.cols.length ≤ q.r.c ∧ Ext w w' := by
  have HO8 := Hid.mk' (fun W (h : Ext w W) => own8_big p.r.r.oid p.r.r.ver p.r.r.nm p.r.r.id p.r.r.cols p.r.a p.r.c W (hp.1.ext h) (by omega))
  have HO13 := Hid.mk' (fun W (h : Ext w W) => eown_any p.e.e.kind p.e.e.ao p.e.e.av p.e.e.old p.e.e.b p.e.e.a p.e.e.rs p.e.e.fl p.e.ba p.e.aa p.e.ra p.e.bc p.e.ac p.e.rc W (hp.2.b.ext h) (hp.2.a.ext h) (hp.2.r.ext h) hs.b hs.a hs.r)
  clear hp hlen hs
  obtain ⟨k, x, st, n, ⟨⟨o, v, nm, id, cols⟩, ca, cc⟩, ⟨⟨kd, ao, av, old, b, aa, rs, fl⟩, ba, bc, aad, ac, ra, rc⟩⟩ := p
  rw [show (ML.agg (⟨k, x, st, n, ⟨⟨o, v, nm, id, cols⟩, ca, cc⟩, ⟨⟨kd, ao, av, old, b, aa, rs, fl⟩, ba, bc, aad, ac, ra, rc⟩⟩ : ML)) = .agg #[.int .u8 k, .int .u32 x, .int .u64 st, .int .u32 n, .int .u32 o, .int .u32 v, .string nm, .int .u8 id, .slice ca cols.length cc, .int .u8 kd, .int .u32 ao, .int .u32 av, .int .u8 old, .slice ba b.length bc, .slice aad aa.length ac, .slice ra rs.length rc, .int .u8 fl] from rfl]
  dsimp only at HO8 HO13
  go_enter Tryz.func9, Tryz.ntmps9
  go_upto_region 1 with (fail)
  obtain ⟨w1, hw1⟩ : ∃ W, W = (w.alloc (.cells #[.int .u8 k, .int .u32 x, .int .u64 st, .int .u32 n, .int .u32 o, .int .u32 v, .string nm, .int .u8 id, .slice ca cols.length cc, .int .u8 kd, .int .u32 ao, .int .u32 av, .int .u8 old, .slice ba b.length bc, .slice aad aa.length ac, .slice ra rs.length rc, .int .u8 fl] 35)).alloc (.cells #[.int .u8 0, .int .u32 0, .int .u64 0, .int .u32 0, .int .u32 0, .int .u32 0, .string ⟨#[]⟩, .int .u8 0, .slice none 0 0, .int .u8 0, .int .u32 0, .int .u32 0, .int .u8 0, .slice none 0 0, .slice none 0 0, .slice none 0 0, .int .u8 0] 56) := ⟨_, rfl⟩
  have HX := Hid.mk' (show Blk w1 w.heap.size #[.int .u8 k, .int .u32 x, .int .u64 st, .int .u32 n, .int .u32 o, .int .u32 v, .string nm, .int .u8 id, .slice ca cols.length cc, .int .u8 kd, .int .u32 ao, .int .u32 av, .int .u8 old, .slice ba b.length bc, .slice aad aa.length ac, .slice ra rs.length rc, .int .u8 fl] 35 by rw [hw1]; exact (Blk.new _ _ _).alloc _)
  have HZ := Hid.mk' (show Blk w1 (w.heap.size + 1) #[.int .u8 0, .int .u32 0, .int .u64 0, .int .u32 0, .int .u32 0, .int .u32 0, .string ⟨#[]⟩, .int .u8 0, .slice none 0 0, .int .u8 0, .int .u32 0, .int .u32 0, .int .u8 0, .slice none 0 0, .slice none 0 0, .slice none 0 0, .int .u8 0] 56 by rw [hw1]; exact Blk.new' (w := w.alloc (.cells #[.int .u8 k, .int .u32 x, .int .u64 st, .int .u32 n, .int .u32 o, .int .u32 v, .string nm, .int .u8 id, .slice ca cols.length cc, .int .u8 kd, .int .u32 ao, .int .u32 av, .int .u8 old, .slice ba b.length bc, .slice aad aa.length ac, .slice ra rs.length rc, .int .u8 fl] 35)) _ _ (by simp))
  have HE1 := Hid.mk' (show Ext w w1 by rw [hw1]; exact ((Ext.refl w).alloc _).alloc _)
  rw [← hw1]
  clear hw1
  have gX := HX.out.cell
  have zX := HX.out.lt
  obtain ⟨X, hX⟩ : ∃ X, X = w.heap.size := ⟨_, rfl⟩
  rw [← hX] at gX zX HZ ⊢
  have HXE := Hid.mk' hX
  clear hX
  have hA0 : Hid ((fun w' => Ext (w1) w' ∧ (∀ b o, b < (w1).heap.size → w'.cell? ⟨b, o, none⟩ = (w1).cell? ⟨b, o, none⟩) ∧ (∀ b o, b < (w1).heap.size → w'.frozen? ⟨b, o, none⟩ = (w1).frozen? ⟨b, o, none⟩)) w1.drew) := held_of (by exact eX)
  refine wp_region_head 15 (fun w' => Ext (w1) w' ∧ (∀ b o, b < (w1).heap.size → w'.cell? ⟨b, o, none⟩ = (w1).cell? ⟨b, o, none⟩) ∧ (∀ b o, b < (w1).heap.size → w'.frozen? ⟨b, o, none⟩ = (w1).frozen? ⟨b, o, none⟩)) (by kernel_rfl) (by decide) ?_
  refine HG.on 0 3 hA0.out ?_
  try simp only [Act.put, List.setIfInBounds_toArray, List.set_cons_zero, List.set_cons_succ]
  refine HG.on 1 4 hA0.out ?_
  try simp only [Act.put, List.setIfInBounds_toArray, List.set_cons_zero, List.set_cons_succ]
  refine HG.on 2 5 hA0.out ?_
  try simp only [Act.put, List.setIfInBounds_toArray, List.set_cons_zero, List.set_cons_succ]
  refine HG.on 3 6 hA0.out ?_
  try simp only [Act.put, List.setIfInBounds_toArray, List.set_cons_zero, List.set_cons_succ]
  refine HG.on 4 7 hA0.out ?_
  try simp only [Act.put, List.setIfInBounds_toArray, List.set_cons_zero, List.set_cons_succ]
  refine HG.on 5 8 hA0.out ?_
  try simp only [Act.put, List.setIfInBounds_toArray, List.set_cons_zero, List.set_cons_succ]
  refine HG.on 6 9 hA0.out ?_
  try simp only [Act.put, List.setIfInBounds_toArray, List.set_cons_zero, List.set_cons_succ]
  refine HG.on 7 10 hA0.out ?_
  try simp only [Act.put, List.setIfInBounds_toArray, List.set_cons_zero, List.set_cons_succ]
  refine HG.on 8 11 hA0.out ?_
  try simp only [Act.put, List.setIfInBounds_toArray, List.set_cons_zero, List.set_cons_succ]
  refine HG.on 9 12 hA0.out ?_
  try simp only [Act.put, List.setIfInBounds_toArray, List.set_cons_zero, List.set_cons_succ]
  refine HG.on 11 14 hA0.out ?_
  try simp only [Act.put, List.setIfInBounds_toArray, List.set_cons_zero, List.set_cons_succ]
  refine HG.on 12 15 hA0.out ?_
  try simp only [Act.put, List.setIfInBounds_toArray, List.set_cons_zero, List.set_cons_succ]
  refine wpHd_one (i := 10) rfl rfl (by kernel_rfl) (fun KK hK => ?_)
  go_simp
  refine (HO8.out _ (HE1.out.trans (by exact eX))).mono ?_
  rintro e w3 ⟨a', c', rfl, hc8, ho8, hb3⟩
  have HB3 := Hid.mk' (show Ext w1 w3 by exact eX)
  have HO := Hid.mk' ho8
  refine hK.out _ _ (held_of HB3.out) (fun hA => ?_)
  clear hK KK hA hA0 hb3 ho8
  refine wpHd_one (i := 13) rfl rfl (by kernel_rfl) (fun KK hK => ?_)
  go_simp
  refine (HO13.out _ (HE1.out.trans HB3.out)).mono ?_
  rintro e w4 ⟨b1, c1, a1, d1, r1, e1, rfl, hat, hon, hb4⟩
  have HB4 := Hid.mk' (show Ext w1 w4 from HB3.out.trans hb4)
  have HO4 := Hid.mk' (owns_ext HO.out hb4)
  have HAT := Hid.mk' hat
  have HON := Hid.mk' hon
  refine hK.out _ _ (held_of HB4.out) (fun hA => ?_)
  clear hK KK hA hb4 hat hon HO
  have hA0 : Hid ((fun w' => Ext (w1) w' ∧ (∀ b o, b < (w1).heap.size → w'.cell? ⟨b, o, none⟩ = (w1).cell? ⟨b, o, none⟩) ∧ (∀ b o, b < (w1).heap.size → w'.frozen? ⟨b, o, none⟩ = (w1).frozen? ⟨b, o, none⟩)) w4) := held_of HB4.out
  refine HG.on 14 17 hA0.out ?_
  try simp only [Act.put, List.setIfInBounds_toArray, List.set_cons_zero, List.set_cons_succ]
  clear hA0 gX zX
  refine wpHd_tail (by kernel_rfl) ?_
  simp only [List.drop_succ_cons, List.drop_zero]
  have HZ4 := Hid.mk' (HZ.out.ext HB4.out)
  have HLT := Hid.mk' HZ.out.lt
  have HS17 := Hid.mk' (show (Instr.storeAt 56 (.pointer (some ⟨X + 1, 0, none⟩)) (.agg #[.int .u8 k, .int .u32 x, .int .u64 st, .int .u32 n, .int .u32 o, .int .u32 v, .string nm, .int .u8 id, .slice a' cols.length c', .int .u8 kd, .int .u32 ao, .int .u32 av, .int .u8 old, .slice b1 b.length c1, .slice a1 aa.length d1, .slice r1 rs.length e1, .int .u8 fl])).run Tryz.prog w4 = .ok () _ from store17 HZ4.out)
  go_wp2_with (refine wpList_store_to rfl 56 (.tmp 2) (.tmp 17) rfl _ _ ?e1 ?e2 HS17.out ?_; (case e1 => go_simp); (case e2 => go_simp))
  refine bodyPost_ret (res_lown20 (Blk.c17 HZ4.out) rfl) rfl ⟨⟨k, x, st, n, ⟨⟨o, v, nm, id, cols⟩, a', c'⟩, ⟨⟨kd, ao, av, old, b, aa, rs, fl⟩, b1, c1, a1, d1, r1, e1⟩⟩, rfl, rfl, ⟨?_, ?_⟩, hc8, ?_⟩
  · refine Sl.kp (Sl.of_owns (base := w1.drew.heap.size) (by rw [List.length_map]; exact HO4.out) (by intro xs hxs; simp at hxs; obtain ⟨_, _, rfl⟩ := hxs; rfl)) Kp.c17 (fun _ b' o' e h => ?_)
    have h1 := HO4.out.lt b' (by rw [show a' = some ⟨b', o', none⟩ from e]; rfl)
    have h2 := HLT.out
    have h3 : w1.drew.heap.size = w1.heap.size := rfl
    have h : b' = X + 1 := h
    omega
  · refine EL.at.kp HAT.out Kp.c17 (HON.out.mono (fun b' hb h => ?_))
    have h1 := HB3.out.size
    have h2 := HLT.out
    have h : b' = X + 1 := h
    omega
  · exact Ext.c17 (HE1.out.trans HB4.out) (by have := HXE.out; omega)

end Go.Proofs.YtihldginolbooaaGreatDoor
