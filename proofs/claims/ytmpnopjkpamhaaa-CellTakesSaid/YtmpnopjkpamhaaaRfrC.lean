/-
The reference's reader: numbers by sevens.
-/
import Derived.Test.YtmpnopjkpamhaaaRfrB
import Derived.Deep.CutBlock
import Derived.IntWalk
namespace Go.Proofs.Ytmpnopjkpamhaaa
open Go.RowKit

theorem valL_drop_le : ∀ (k : Nat) (l : List Int), valL (l.drop k) ≤ valL l := by
  intro k
  induction k with
  | zero => intro l; simp
  | succ k ih =>
    intro l
    cases l with
    | nil => simp
    | cons x l => rw [List.drop_succ_cons, valL]; have := ih l; omega

theorem quiet_of2 {P : Program} {f : FuncId} {args : Array Value} {w : World} {q n : Nat} {v : Value}
    (h : Calls P f args (w.drewN (q + n)) fun e w' => e = .returned v ∧ ∃ m, w' = (w.drewN (q + n)).drewN m) : Calls P f args (w.drewN (q + n)) fun e w'' => e = .returned v ∧ ∃ m, w'' = w.drewN (q + m) :=
  h.mono fun _ _ ⟨he, m, hm⟩ => ⟨he, n + m, by rw [hm, World.drewN_drewN, Nat.add_assoc]⟩

def U2 (l : List Int) (n : Nat) (w : World) (v i : Value) (wr : World) : Prop := ∃ j q : Nat, j ≤ n + 1 ∧ i = .int .i64 ((j : Int) - 1) ∧ v = .int .u64 (valL ((l.take (n + 1)).drop j)) ∧ wr = w.drewN q
def UExit (l : List Int) (n : Nat) : Prop := n = 10 ∨ n = l.length ∨ (n < l.length ∧ l.getD n 0 < 128)
def ULoop (l : List Int) (w : World) (i : Value) (wr : World) : Prop := ∃ n q : Nat, n ≤ 10 ∧ n ≤ l.length ∧ i = .int .i64 n ∧ wr = w.drewN q ∧ ∀ i, i < n → 128 ≤ l.getD i 0
def UCut (l : List Int) (w : World) (i : Value) (wr : World) : Prop := ∃ n q : Nat, n ≤ 10 ∧ n ≤ l.length ∧ i = .int .i64 n ∧ wr = w.drewN q ∧ (∀ i, i < n → 128 ≤ l.getD i 0) ∧ UExit l n

set_option maxRecDepth 100000 in set_option maxHeartbeats 8000000 in
theorem fuint_any (g d : Nat) (st : RS) (m : Nat) (w : World) (h : RF w g d st) (hm : m < 18446744073709551616) :
    Calls Try.prog 81 #[.pointer (some ⟨g, 0, none⟩), .int .u64 m] w (FPost g d w (.int .u64 (uintR m st).1) (uintR m st).2) := by
  have H := Hid.mk' h
  have HLF := Hid.mk' (fun w h => fleft_any g d st w h)
  have hok := h.ok
  obtain ⟨v, L, a, hb, ⟨ad, cap, rfl, hlc, hnc, hs⟩, hat, hl, hB, hlen⟩ := h
  have hc := hb.cell
  have hf := hb.frozen
  have hlt := hb.lt
  have HB := Hid.mk' hb
  have HS : Hid (SB w g d (.slice ad L.length cap) L) := Hid.mk' ⟨ad, cap, rfl, hlc, hnc, hs⟩
  have hll : st.l.length ≤ 1000000 := by rw [hl]; split <;> simp <;> omega
  have HCX : Hid (∀ n, n < st.l.length → a + n < L.length ∧ ∃ b o, ad = some ⟨b, o, none⟩ ∧ w.cell? ⟨b, o + (a + n), none⟩ = some (.int .u8 (st.l.getD n 0)) ∧ 0 ≤ st.l.getD n 0 ∧ st.l.getD n 0 < 256) := Hid.mk' (fun n hn => by
    have he : st.e = 0 := Classical.byContradiction fun he => by rw [hl, if_neg he] at hn; simp at hn
    have hl2 : st.l = L.drop a := by rw [hl, if_pos he]
    have hn2 : a + n < L.length := by rw [hl2, List.length_drop] at hn; omega
    refine ⟨hn2, ?_⟩
    rcases hs with hs | ⟨b, o, hab, hbb, hd, hcc⟩
    · rw [hs] at hn2; simp at hn2
    · have hx := hok.2 (st.l.getD n 0) (by rw [List.getD_eq_getElem?_getD, List.getElem?_eq_getElem hn]; exact List.getElem_mem hn)
      refine ⟨b, o, hab, ?_, hx⟩
      rw [hcc _ hn2]
      congr 2
      rw [hl2]; simp [List.getD])
  have HOK := Hid.mk' hok
  have HLL := Hid.mk' hl
  have HBI := Hid.mk' hB
  have HLEN := Hid.mk' hlen
  have HLC := Hid.mk' hlc
  clear hb hs hl hB hok hlc hnc hlen
  go_enter Try.func81, Try.ntmps81
  go_upto_block 0 with (fail)
  go_cut [5] (fun i wx => Hid (UCut st.l w i wx))
  case first =>
    as_aux_lemma =>
      go_wp2
      go_loopw [5] (fun i wr => ULoop st.l w i wr) (fun i _ => 10 - (intOf i).toNat)
      case atStart => exact ⟨0, 0, by omega, Nat.zero_le _, rfl, rfl, fun i h => by omega⟩
      case round =>
        obtain ⟨n, q, hn10, hnl, rfl, rfl, hb⟩ := hrel
        have HBB := Hid.mk' hb
        clear hb
        by_cases h10 : n < 10
        · by_cases hlt2 : n < st.l.length
          · obtain ⟨han, b, o, rfl, hx, hx0, hx1⟩ := HCX.out n hlt2
            have han' := HLC.out
            obtain ⟨x, hxx⟩ : ∃ x, x = st.l.getD n 0 := ⟨_, rfl⟩
            rw [← hxx] at hx hx0 hx1
            have HXX := Hid.mk' hxx
            clear hxx
            by_cases h128 : 127 < x
            · have t1 : (n : Int) < 10 := by omega
              have t2 : (n : Int) < (st.l.length : Int) := by omega
              have t3 : (0 : Int) ≤ (a : Int) + (n : Int) := by omega
              have t4 : (a : Int) + (n : Int) < (L.length : Int) := by omega
              have t5 : ((a : Int) + (n : Int)).toNat = a + n := by omega
              have t6 : IntKind.i64.wrap ((a : Int) + (n : Int)) = (a : Int) + (n : Int) := IntWalk.i64_in _ (by have := HLEN.out; omega)
              go_wp2
              go_quiet ((go_at_call 24; refine quiet_of2 (HLF.out _ (H.out.drewN _))))
              clear t1 t2 t3 t4 t5 t6
              go_wp2
              go_roundw
              case rel =>
                refine ⟨n + 1, q + nq, by omega, by omega, by go_num, by first | rfl | rw [World.drewN_drewN], fun i hi => ?_⟩
                by_cases hin : i = n
                · subst hin; rw [← HXX.out]; omega
                · exact HBB.out i (by omega)
              case measure => simp [intOf]; omega
            · have h128' : x ≤ 127 := by omega
              have d3 : decide (127 < x) = false := by simpa using h128
              clear h128
              have t1 : (n : Int) < 10 := by omega
              have t2 : (n : Int) < (st.l.length : Int) := by omega
              have t3 : (0 : Int) ≤ (a : Int) + (n : Int) := by omega
              have t4 : (a : Int) + (n : Int) < (L.length : Int) := by omega
              have t5 : ((a : Int) + (n : Int)).toNat = a + n := by omega
              have t6 : IntKind.i64.wrap ((a : Int) + (n : Int)) = (a : Int) + (n : Int) := IntWalk.i64_in _ (by have := HLEN.out; omega)
              go_wp2
              go_quiet ((go_at_call 24; refine quiet_of2 (HLF.out _ (H.out.drewN _))))
              clear t1 t2 t3 t4 t5 t6
              go_wp2
              go_meet
              case rel => exact ⟨n, q + nq, hn10, hnl, rfl, by first | rfl | rw [World.drewN_drewN], HBB.out, .inr (.inr ⟨hlt2, by rw [← HXX.out]; omega⟩)⟩
          · have hne : n = st.l.length := by omega
            have d2 : decide (n < st.l.length) = false := by simp; omega
            have t1 : (n : Int) < 10 := by omega
            have HNE := Hid.mk' hne
            clear hne hlt2
            go_wp2
            go_quiet ((go_at_call 24; refine quiet_of2 (HLF.out _ (H.out.drewN _))))
            clear d2
            go_wp2
            go_meet
            case rel => exact ⟨n, q + nq, hn10, hnl, rfl, by first | rfl | rw [World.drewN_drewN], HBB.out, .inr (.inl HNE.out)⟩
        · obtain rfl : n = 10 := by omega
          clear h10
          go_wp2
          go_quiet ((go_at_call 24; refine quiet_of2 (HLF.out _ (H.out.drewN _))))
          go_wp2
          go_meet
          case rel => exact ⟨10, q + nq, hn10, hnl, rfl, by first | rfl | rw [World.drewN_drewN], HBB.out, .inl rfl⟩
  case rest =>
    obtain ⟨n, q, hn10, hnl, rfl, rfl, hbb, hex⟩ := hcut.out
    have HBB := Hid.mk' hbb
    clear hcut hbb
    by_cases h10 : n = 10
    · subst h10
      have hE : Hid (uintR m st = (0, giveS st 5)) := Hid.mk' (by
        unfold uintR; simp only [digs_ten st.l hnl HBB.out]; rfl)
      have HG := Hid.mk' (fun w h => fgive_any g d st 5 w h (by decide))
      clear hex
      go_wp2
      go_quiet ((go_at_call 24; refine quiet_of2 (HLF.out _ (H.out.drewN _))))
      go_wp2_with (go_at_call 76; refine (HG.out _ ((H.out.drewN _))).mono ?_; rintro e w2 ⟨rfl, hr, ht⟩; have HR := Hid.mk' hr; have HT := Hid.mk' ht; clear hr ht)
      go_ret
      exact ⟨by rw [hE.out]; rfl, by rw [hE.out]; exact HR.out, (Tch.of_ext ((Ext.refl w).drewN _)).trans HT.out⟩
    · have hn9 : n ≤ 9 := by omega
      by_cases hlt2 : n < st.l.length
      · obtain ⟨han, b, o, rfl, hx, hx0, hx1⟩ := HCX.out n hlt2
        have hx128 : st.l.getD n 0 < 128 := by rcases hex with h | h | h <;> omega
        have hdig := digs_at st.l n hlt2 hn9 HBB.out hx128
        have hvm := digs_lt st.l 0 0 HOK.out.2 (by omega) (by decide)
        obtain ⟨x, hxx⟩ : ∃ x, x = st.l.getD n 0 := ⟨_, rfl⟩
        rw [← hxx] at hx hx0 hx1 hx128 hdig
        have HXX := Hid.mk' hxx
        have hlc := HLC.out
        have d3 : ((n : Int) == 10) = false := by simp; omega
        have d6 : decide (st.l.length ≤ n) = false := by simp; omega
        have d7 : (n : Int) < (st.l.length : Int) := by omega
        clear hxx hex
        by_cases c1 : n = 9 ∧ 1 < x
        · rw [if_pos c1] at hdig
          have hE : Hid (uintR m st = (0, giveS st 5)) := Hid.mk' (by unfold uintR; simp only [hdig]; rfl)
          have HG := Hid.mk' (fun w h => fgive_any g d st 5 w h (by decide))
          obtain ⟨hn, hx2⟩ := c1
          have d5 : ((n : Int) == 9) = true := by simp; omega
          clear hdig hvm hn
          have t1 : (n : Int) < (st.l.length : Int) := by omega
          have t2 : n < st.l.length := by omega
          have t3 : (0 : Int) ≤ (a : Int) + (n : Int) := by omega
          have t4 : (a : Int) + (n : Int) < (L.length : Int) := by omega
          have t5 : ((a : Int) + (n : Int)).toNat = a + n := by omega
          have t6 : IntKind.i64.wrap ((a : Int) + (n : Int)) = (a : Int) + (n : Int) := IntWalk.i64_in _ (by have := HLEN.out; omega)
          go_wp2
          go_quiet ((go_at_call 24; refine quiet_of2 (HLF.out _ (H.out.drewN _))))
          clear t1 t2 t3 t4 t5 t6
          go_wp2_with (go_at_call 76; refine (HG.out _ ((H.out.drewN _))).mono ?_; rintro e w2 ⟨rfl, hr, ht⟩; have HR := Hid.mk' hr; have HT := Hid.mk' ht; clear hr ht)
          go_ret
          exact ⟨by rw [hE.out]; rfl, by rw [hE.out]; exact HR.out, (Tch.of_ext ((Ext.refl w).drewN _)).trans HT.out⟩
        · rw [if_neg c1] at hdig
          by_cases c2 : 1 ≤ n ∧ x = 0
          · rw [if_pos c2] at hdig
            have hE : Hid (uintR m st = (0, giveS st 5)) := Hid.mk' (by unfold uintR; simp only [hdig]; rfl)
            have HG := Hid.mk' (fun w h => fgive_any g d st 5 w h (by decide))
            obtain ⟨hn1, rfl⟩ := c2
            have hn1' : (0 : Int) < (n : Int) := by omega
            have hn0n : 0 < n := by omega
            clear hdig hvm c1
            by_cases h9 : n = 9
            · have d5 : ((n : Int) == 9) = true := by simp; omega
              clear h9
              have t1 : (n : Int) < (st.l.length : Int) := by omega
              have t2 : n < st.l.length := by omega
              have t3 : (0 : Int) ≤ (a : Int) + (n : Int) := by omega
              have t4 : (a : Int) + (n : Int) < (L.length : Int) := by omega
              have t5 : ((a : Int) + (n : Int)).toNat = a + n := by omega
              have t6 : IntKind.i64.wrap ((a : Int) + (n : Int)) = (a : Int) + (n : Int) := IntWalk.i64_in _ (by have := HLEN.out; omega)
              go_wp2
              go_quiet ((go_at_call 24; refine quiet_of2 (HLF.out _ (H.out.drewN _))))
              go_wp2_with (go_at_call 24; refine (HLF.out _ (H.out.drewN _)).mono ?_; rintro e w1 ⟨rfl, q1, rfl⟩)
              go_quiet (fail)
              clear t1 t2 t3 t4 t5 t6
              go_wp2_with (go_at_call 76; refine (HG.out _ ((H.out.drewN _))).mono ?_; rintro e w2 ⟨rfl, hr, ht⟩; have HR := Hid.mk' hr; have HT := Hid.mk' ht; clear hr ht)
              go_ret
              exact ⟨by rw [hE.out]; rfl, by rw [hE.out]; exact HR.out, (Tch.of_ext ((Ext.refl w).drewN _)).trans HT.out⟩
            · have d5 : ((n : Int) == 9) = false := by simp; omega
              clear h9
              have t1 : (n : Int) < (st.l.length : Int) := by omega
              have t2 : n < st.l.length := by omega
              have t3 : (0 : Int) ≤ (a : Int) + (n : Int) := by omega
              have t4 : (a : Int) + (n : Int) < (L.length : Int) := by omega
              have t5 : ((a : Int) + (n : Int)).toNat = a + n := by omega
              have t6 : IntKind.i64.wrap ((a : Int) + (n : Int)) = (a : Int) + (n : Int) := IntWalk.i64_in _ (by have := HLEN.out; omega)
              go_wp2
              go_quiet ((go_at_call 24; refine quiet_of2 (HLF.out _ (H.out.drewN _))))
              go_wp2_with (go_at_call 24; refine (HLF.out _ (H.out.drewN _)).mono ?_; rintro e w1 ⟨rfl, q1, rfl⟩)
              go_quiet (fail)
              clear t1 t2 t3 t4 t5 t6
              go_wp2_with (go_at_call 76; refine (HG.out _ ((H.out.drewN _))).mono ?_; rintro e w2 ⟨rfl, hr, ht⟩; have HR := Hid.mk' hr; have HT := Hid.mk' ht; clear hr ht)
              go_ret
              exact ⟨by rw [hE.out]; rfl, by rw [hE.out]; exact HR.out, (Tch.of_ext ((Ext.refl w).drewN _)).trans HT.out⟩
          · rw [if_neg c2] at hdig
            rw [hdig] at hvm
            have HDG := Hid.mk' hdig
            have HVM := Hid.mk' hvm
            clear hdig hvm
            have HLT2 := Hid.mk' hlt2
            by_cases h9 : n = 9
            · have d5 : ((n : Int) == 9) = true := by simp; omega
              have hx2 : x ≤ 1 := by omega
              have hx3 : (x == 0) = false := by simp; omega
              have hx4 : decide (1 < x) = false := by simp; omega
              have hn1' : (0 : Int) < (n : Int) := by omega
              have hn0n : 0 < n := by omega
              clear h9 c1 c2
              have t1 : (n : Int) < (st.l.length : Int) := by omega
              have t2 : n < st.l.length := by omega
              have t3 : (0 : Int) ≤ (a : Int) + (n : Int) := by omega
              have t4 : (a : Int) + (n : Int) < (L.length : Int) := by omega
              have t5 : ((a : Int) + (n : Int)).toNat = a + n := by omega
              have t6 : IntKind.i64.wrap ((a : Int) + (n : Int)) = (a : Int) + (n : Int) := IntWalk.i64_in _ (by have := HLEN.out; omega)
              go_wp2
              go_quiet ((go_at_call 24; refine quiet_of2 (HLF.out _ (H.out.drewN _))))
              go_wp2_with (go_at_call 24; refine (HLF.out _ (H.out.drewN _)).mono ?_; rintro e w1 ⟨rfl, q1, rfl⟩)
              go_quiet (fail)
              clear t1 t2 t3 t4 t5 t6 d3 d5 d6 hx3 hx4
              go_wp2
              go_loopw [6, 7] (fun v i wr => U2 st.l n w v i wr) (fun _ i _ => (intOf i + 1).toNat)
              case atStart => exact ⟨n + 1, _, Nat.le_refl _, by congr 1; omega, by rw [List.drop_eq_nil_of_le (by simp; omega)]; rfl, by first | rfl | rw [World.drewN_drewN]⟩
              case round =>
                obtain ⟨j, q2, hj, rfl, rfl, rfl⟩ := hrel
                cases j with
                | succ k =>
                  obtain ⟨hak, bk, ok, hab, hxk, hk0, hk1⟩ := HCX.out k (by omega)
                  simp only [Option.some.injEq, Addr.mk.injEq, and_true] at hab
                  obtain ⟨rfl, rfl⟩ := hab
                  have e : (((k + 1 : Nat) : Int) - 1) = (k : Int) := by omega
                  rw [e]
                  clear e
                  have hd : (st.l.take (n + 1)).drop k = st.l.getD k 0 :: (st.l.take (n + 1)).drop (k + 1) := by
                    have h1 : k < (st.l.take (n + 1)).length := by simp; omega
                    rw [List.drop_eq_getElem_cons h1]
                    congr 1
                    have h2 : k < st.l.length := by omega
                    simp [List.getD, List.getElem?_eq_getElem h2]
                  have hle := valL_drop_le k (st.l.take (n + 1))
                  have hM := HVM.out
                  generalize st.l.getD k 0 = z at *
                  have HN : Hid ((valL ((st.l.take (n + 1)).drop k) : Int) = 128 * (valL ((st.l.take (n + 1)).drop (k + 1)) : Int) + z % 128) := Hid.mk' (by rw [hd, valL]; push_cast; omega)
                  have hbd : 128 * (valL ((st.l.take (n + 1)).drop (k + 1)) : Int) + z % 128 < 18446744073709551616 := by rw [← HN.out]; omega
                  generalize valL ((st.l.take (n + 1)).drop (k + 1)) = vv at *
                  clear hle hM hd
                  have s3 : (0 : Int) ≤ (a : Int) + (k : Int) := by omega
                  have s4 : (a : Int) + (k : Int) < (L.length : Int) := by omega
                  have s7 : (128 : Int) * (vv : Int) < 18446744073709551616 := by omega
                  have s8 : IntKind.u64.wrap (128 * (vv : Int)) = 128 * (vv : Int) := by rw [u64_wrap']; omega
                  have s9 : IntKind.u64.wrap (128 * (vv : Int) + z % 128) = 128 * (vv : Int) + z % 128 := by rw [u64_wrap']; omega
                  have s5 : ((a : Int) + (k : Int)).toNat = a + k := by omega
                  have s6 : IntKind.i64.wrap ((a : Int) + (k : Int)) = (a : Int) + (k : Int) := IntWalk.i64_in _ (by have := HLEN.out; omega)
                  go_wp2
                  go_quiet (fail)
                  clear s3 s4 s5 s6 s7 s8 s9
                  go_wp2
                  go_roundw
                  case rel => exact ⟨k, q2 + nq, by omega, by first | rfl | (congr 1; omega), by rw [HN.out], by first | rfl | rw [World.drewN_drewN]⟩
                  case measure => simp [intOf]
                | zero =>
                  have e : (((0 : Nat) : Int) - 1) = -1 := by omega
                  rw [e]
                  clear e
                  simp only [List.drop_zero]
                  have hM := HVM.out
                  generalize valL (st.l.take (n + 1)) = vv at *
                  have hb1 : (a : Int) + (n : Int) + 1 ≤ 2000000 := by have := HLEN.out; omega
                  by_cases hgt : m < vv
                  · have hE : Hid (uintR m st = (0, giveS st 4)) := Hid.mk' (by unfold uintR; simp only [HDG.out]; rw [if_neg (by simp), if_pos hgt])
                    have HG := Hid.mk' (fun w h => fgive_any g d st 4 w h (by decide))
                    have hgt' : (m : Int) < (vv : Int) := by omega
                    go_wp2_with (go_at_call 76; refine (HG.out _ ((H.out.drewN _))).mono ?_; rintro e w2 ⟨rfl, hr, ht⟩; have HR := Hid.mk' hr; have HT := Hid.mk' ht; clear hr ht)
                    go_ret
                    exact ⟨by rw [hE.out]; rfl, by rw [hE.out]; exact HR.out, (Tch.of_ext ((Ext.refl w).drewN _)).trans HT.out⟩
                  · have hE : Hid (uintR m st = (vv, ⟨st.l.drop (n + 1), st.e⟩)) := Hid.mk' (by unfold uintR; simp only [HDG.out]; rw [if_neg (by simp), if_neg hgt])
                    have hgt' : (vv : Int) ≤ (m : Int) := by omega
                    go_wp2
                    go_ret
                    have hT : Tch g w ((w.drewN q2).setCell ⟨g, 1, none⟩ (.int .i64 ((a : Int) + (n : Int) + 1))) := (Tch.of_ext ((Ext.refl w).drewN q2)).trans ((Tch.refl g _).set 1 _)
                    refine ⟨by rw [hE.out]; rfl, ?_, hT⟩
                    rw [hE.out]
                    have he : st.e = 0 := Classical.byContradiction fun he => by have h := HLL.out; rw [if_neg he] at h; rw [h] at hlt2; simp at hlt2
                    have hlL : st.l = L.drop a := by have h := HLL.out; rw [if_pos he] at h; exact h
                    refine ⟨_, L, a + n + 1, by have h := (HB.out.drewN q2).set 1 (.int .i64 ((a : Int) + (n : Int) + 1)); simpa using h, HS.out.tch hT (.inr (Nat.le_refl _)), by omega, ?_, HBI.out, HLEN.out⟩
                    show st.l.drop (n + 1) = if st.e = 0 then _ else _
                    rw [if_pos he, hlL, List.drop_drop, Nat.add_assoc]
            · have d5 : ((n : Int) == 9) = false := by simp; omega
              by_cases h0 : n = 0
              · have d8 : decide ((0 : Int) < (n : Int)) = false := by simp; omega
                have d9 : decide (0 < n) = false := by simp; omega
                clear h9 c1 c2 h0
                have t1 : (n : Int) < (st.l.length : Int) := by omega
                have t2 : n < st.l.length := by omega
                have t3 : (0 : Int) ≤ (a : Int) + (n : Int) := by omega
                have t4 : (a : Int) + (n : Int) < (L.length : Int) := by omega
                have t5 : ((a : Int) + (n : Int)).toNat = a + n := by omega
                have t6 : IntKind.i64.wrap ((a : Int) + (n : Int)) = (a : Int) + (n : Int) := IntWalk.i64_in _ (by have := HLEN.out; omega)
                go_wp2
                go_quiet ((go_at_call 24; refine quiet_of2 (HLF.out _ (H.out.drewN _))))
                go_wp2_with (go_at_call 24; refine (HLF.out _ (H.out.drewN _)).mono ?_; rintro e w1 ⟨rfl, q1, rfl⟩)
                go_quiet (fail)
                clear t1 t2 t3 t4 t5 t6 d3 d5 d6 d8 d9
                go_wp2
                go_loopw [6, 7] (fun v i wr => U2 st.l n w v i wr) (fun _ i _ => (intOf i + 1).toNat)
                case atStart => exact ⟨n + 1, _, Nat.le_refl _, by congr 1; omega, by rw [List.drop_eq_nil_of_le (by simp; omega)]; rfl, by first | rfl | rw [World.drewN_drewN]⟩
                case round =>
                  obtain ⟨j, q2, hj, rfl, rfl, rfl⟩ := hrel
                  cases j with
                  | succ k =>
                    obtain ⟨hak, bk, ok, hab, hxk, hk0, hk1⟩ := HCX.out k (by omega)
                    simp only [Option.some.injEq, Addr.mk.injEq, and_true] at hab
                    obtain ⟨rfl, rfl⟩ := hab
                    have e : (((k + 1 : Nat) : Int) - 1) = (k : Int) := by omega
                    rw [e]
                    clear e
                    have hd : (st.l.take (n + 1)).drop k = st.l.getD k 0 :: (st.l.take (n + 1)).drop (k + 1) := by
                      have h1 : k < (st.l.take (n + 1)).length := by simp; omega
                      rw [List.drop_eq_getElem_cons h1]
                      congr 1
                      have h2 : k < st.l.length := by omega
                      simp [List.getD, List.getElem?_eq_getElem h2]
                    have hle := valL_drop_le k (st.l.take (n + 1))
                    have hM := HVM.out
                    generalize st.l.getD k 0 = z at *
                    have HN : Hid ((valL ((st.l.take (n + 1)).drop k) : Int) = 128 * (valL ((st.l.take (n + 1)).drop (k + 1)) : Int) + z % 128) := Hid.mk' (by rw [hd, valL]; push_cast; omega)
                    have hbd : 128 * (valL ((st.l.take (n + 1)).drop (k + 1)) : Int) + z % 128 < 18446744073709551616 := by rw [← HN.out]; omega
                    generalize valL ((st.l.take (n + 1)).drop (k + 1)) = vv at *
                    clear hle hM hd
                    have s3 : (0 : Int) ≤ (a : Int) + (k : Int) := by omega
                    have s4 : (a : Int) + (k : Int) < (L.length : Int) := by omega
                    have s7 : (128 : Int) * (vv : Int) < 18446744073709551616 := by omega
                    have s8 : IntKind.u64.wrap (128 * (vv : Int)) = 128 * (vv : Int) := by rw [u64_wrap']; omega
                    have s9 : IntKind.u64.wrap (128 * (vv : Int) + z % 128) = 128 * (vv : Int) + z % 128 := by rw [u64_wrap']; omega
                    have s5 : ((a : Int) + (k : Int)).toNat = a + k := by omega
                    have s6 : IntKind.i64.wrap ((a : Int) + (k : Int)) = (a : Int) + (k : Int) := IntWalk.i64_in _ (by have := HLEN.out; omega)
                    go_wp2
                    go_quiet (fail)
                    clear s3 s4 s5 s6 s7 s8 s9
                    go_wp2
                    go_roundw
                    case rel => exact ⟨k, q2 + nq, by omega, by first | rfl | (congr 1; omega), by rw [HN.out], by first | rfl | rw [World.drewN_drewN]⟩
                    case measure => simp [intOf]
                  | zero =>
                    have e : (((0 : Nat) : Int) - 1) = -1 := by omega
                    rw [e]
                    clear e
                    simp only [List.drop_zero]
                    have hM := HVM.out
                    generalize valL (st.l.take (n + 1)) = vv at *
                    have hb1 : (a : Int) + (n : Int) + 1 ≤ 2000000 := by have := HLEN.out; omega
                    by_cases hgt : m < vv
                    · have hE : Hid (uintR m st = (0, giveS st 4)) := Hid.mk' (by unfold uintR; simp only [HDG.out]; rw [if_neg (by simp), if_pos hgt])
                      have HG := Hid.mk' (fun w h => fgive_any g d st 4 w h (by decide))
                      have hgt' : (m : Int) < (vv : Int) := by omega
                      go_wp2_with (go_at_call 76; refine (HG.out _ ((H.out.drewN _))).mono ?_; rintro e w2 ⟨rfl, hr, ht⟩; have HR := Hid.mk' hr; have HT := Hid.mk' ht; clear hr ht)
                      go_ret
                      exact ⟨by rw [hE.out]; rfl, by rw [hE.out]; exact HR.out, (Tch.of_ext ((Ext.refl w).drewN _)).trans HT.out⟩
                    · have hE : Hid (uintR m st = (vv, ⟨st.l.drop (n + 1), st.e⟩)) := Hid.mk' (by unfold uintR; simp only [HDG.out]; rw [if_neg (by simp), if_neg hgt])
                      have hgt' : (vv : Int) ≤ (m : Int) := by omega
                      go_wp2
                      go_ret
                      have hT : Tch g w ((w.drewN q2).setCell ⟨g, 1, none⟩ (.int .i64 ((a : Int) + (n : Int) + 1))) := (Tch.of_ext ((Ext.refl w).drewN q2)).trans ((Tch.refl g _).set 1 _)
                      refine ⟨by rw [hE.out]; rfl, ?_, hT⟩
                      rw [hE.out]
                      have he : st.e = 0 := Classical.byContradiction fun he => by have h := HLL.out; rw [if_neg he] at h; rw [h] at hlt2; simp at hlt2
                      have hlL : st.l = L.drop a := by have h := HLL.out; rw [if_pos he] at h; exact h
                      refine ⟨_, L, a + n + 1, by have h := (HB.out.drewN q2).set 1 (.int .i64 ((a : Int) + (n : Int) + 1)); simpa using h, HS.out.tch hT (.inr (Nat.le_refl _)), by omega, ?_, HBI.out, HLEN.out⟩
                      show st.l.drop (n + 1) = if st.e = 0 then _ else _
                      rw [if_pos he, hlL, List.drop_drop, Nat.add_assoc]
              · have hx3 : (x == 0) = false := by simp; omega
                have hn1' : (0 : Int) < (n : Int) := by omega
                have hn0n : 0 < n := by omega
                clear h9 c1 c2 h0
                have t1 : (n : Int) < (st.l.length : Int) := by omega
                have t2 : n < st.l.length := by omega
                have t3 : (0 : Int) ≤ (a : Int) + (n : Int) := by omega
                have t4 : (a : Int) + (n : Int) < (L.length : Int) := by omega
                have t5 : ((a : Int) + (n : Int)).toNat = a + n := by omega
                have t6 : IntKind.i64.wrap ((a : Int) + (n : Int)) = (a : Int) + (n : Int) := IntWalk.i64_in _ (by have := HLEN.out; omega)
                go_wp2
                go_quiet ((go_at_call 24; refine quiet_of2 (HLF.out _ (H.out.drewN _))))
                go_wp2_with (go_at_call 24; refine (HLF.out _ (H.out.drewN _)).mono ?_; rintro e w1 ⟨rfl, q1, rfl⟩)
                go_quiet (fail)
                clear t1 t2 t3 t4 t5 t6 d3 d5 d6 hx3
                go_wp2
                go_loopw [6, 7] (fun v i wr => U2 st.l n w v i wr) (fun _ i _ => (intOf i + 1).toNat)
                case atStart => exact ⟨n + 1, _, Nat.le_refl _, by congr 1; omega, by rw [List.drop_eq_nil_of_le (by simp; omega)]; rfl, by first | rfl | rw [World.drewN_drewN]⟩
                case round =>
                  obtain ⟨j, q2, hj, rfl, rfl, rfl⟩ := hrel
                  cases j with
                  | succ k =>
                    obtain ⟨hak, bk, ok, hab, hxk, hk0, hk1⟩ := HCX.out k (by omega)
                    simp only [Option.some.injEq, Addr.mk.injEq, and_true] at hab
                    obtain ⟨rfl, rfl⟩ := hab
                    have e : (((k + 1 : Nat) : Int) - 1) = (k : Int) := by omega
                    rw [e]
                    clear e
                    have hd : (st.l.take (n + 1)).drop k = st.l.getD k 0 :: (st.l.take (n + 1)).drop (k + 1) := by
                      have h1 : k < (st.l.take (n + 1)).length := by simp; omega
                      rw [List.drop_eq_getElem_cons h1]
                      congr 1
                      have h2 : k < st.l.length := by omega
                      simp [List.getD, List.getElem?_eq_getElem h2]
                    have hle := valL_drop_le k (st.l.take (n + 1))
                    have hM := HVM.out
                    generalize st.l.getD k 0 = z at *
                    have HN : Hid ((valL ((st.l.take (n + 1)).drop k) : Int) = 128 * (valL ((st.l.take (n + 1)).drop (k + 1)) : Int) + z % 128) := Hid.mk' (by rw [hd, valL]; push_cast; omega)
                    have hbd : 128 * (valL ((st.l.take (n + 1)).drop (k + 1)) : Int) + z % 128 < 18446744073709551616 := by rw [← HN.out]; omega
                    generalize valL ((st.l.take (n + 1)).drop (k + 1)) = vv at *
                    clear hle hM hd
                    have s3 : (0 : Int) ≤ (a : Int) + (k : Int) := by omega
                    have s4 : (a : Int) + (k : Int) < (L.length : Int) := by omega
                    have s7 : (128 : Int) * (vv : Int) < 18446744073709551616 := by omega
                    have s8 : IntKind.u64.wrap (128 * (vv : Int)) = 128 * (vv : Int) := by rw [u64_wrap']; omega
                    have s9 : IntKind.u64.wrap (128 * (vv : Int) + z % 128) = 128 * (vv : Int) + z % 128 := by rw [u64_wrap']; omega
                    have s5 : ((a : Int) + (k : Int)).toNat = a + k := by omega
                    have s6 : IntKind.i64.wrap ((a : Int) + (k : Int)) = (a : Int) + (k : Int) := IntWalk.i64_in _ (by have := HLEN.out; omega)
                    go_wp2
                    go_quiet (fail)
                    clear s3 s4 s5 s6 s7 s8 s9
                    go_wp2
                    go_roundw
                    case rel => exact ⟨k, q2 + nq, by omega, by first | rfl | (congr 1; omega), by rw [HN.out], by first | rfl | rw [World.drewN_drewN]⟩
                    case measure => simp [intOf]
                  | zero =>
                    have e : (((0 : Nat) : Int) - 1) = -1 := by omega
                    rw [e]
                    clear e
                    simp only [List.drop_zero]
                    have hM := HVM.out
                    generalize valL (st.l.take (n + 1)) = vv at *
                    have hb1 : (a : Int) + (n : Int) + 1 ≤ 2000000 := by have := HLEN.out; omega
                    by_cases hgt : m < vv
                    · have hE : Hid (uintR m st = (0, giveS st 4)) := Hid.mk' (by unfold uintR; simp only [HDG.out]; rw [if_neg (by simp), if_pos hgt])
                      have HG := Hid.mk' (fun w h => fgive_any g d st 4 w h (by decide))
                      have hgt' : (m : Int) < (vv : Int) := by omega
                      go_wp2_with (go_at_call 76; refine (HG.out _ ((H.out.drewN _))).mono ?_; rintro e w2 ⟨rfl, hr, ht⟩; have HR := Hid.mk' hr; have HT := Hid.mk' ht; clear hr ht)
                      go_ret
                      exact ⟨by rw [hE.out]; rfl, by rw [hE.out]; exact HR.out, (Tch.of_ext ((Ext.refl w).drewN _)).trans HT.out⟩
                    · have hE : Hid (uintR m st = (vv, ⟨st.l.drop (n + 1), st.e⟩)) := Hid.mk' (by unfold uintR; simp only [HDG.out]; rw [if_neg (by simp), if_neg hgt])
                      have hgt' : (vv : Int) ≤ (m : Int) := by omega
                      go_wp2
                      go_ret
                      have hT : Tch g w ((w.drewN q2).setCell ⟨g, 1, none⟩ (.int .i64 ((a : Int) + (n : Int) + 1))) := (Tch.of_ext ((Ext.refl w).drewN q2)).trans ((Tch.refl g _).set 1 _)
                      refine ⟨by rw [hE.out]; rfl, ?_, hT⟩
                      rw [hE.out]
                      have he : st.e = 0 := Classical.byContradiction fun he => by have h := HLL.out; rw [if_neg he] at h; rw [h] at hlt2; simp at hlt2
                      have hlL : st.l = L.drop a := by have h := HLL.out; rw [if_pos he] at h; exact h
                      refine ⟨_, L, a + n + 1, by have h := (HB.out.drewN q2).set 1 (.int .i64 ((a : Int) + (n : Int) + 1)); simpa using h, HS.out.tch hT (.inr (Nat.le_refl _)), by omega, ?_, HBI.out, HLEN.out⟩
                      show st.l.drop (n + 1) = if st.e = 0 then _ else _
                      rw [if_pos he, hlL, List.drop_drop, Nat.add_assoc]
      · have hne : n = st.l.length := by omega
        have hE : Hid (uintR m st = (0, giveS st 1)) := Hid.mk' (by
          unfold uintR; simp only [digs_short st.l n hne hn9 HBB.out]; rfl)
        have HG := Hid.mk' (fun w h => fgive_any g d st 1 w h (by decide))
        have d2 : decide (n < st.l.length) = false := by simp; omega
        have d3 : ((n : Int) == 10) = false := by simp; omega
        have hge : (st.l.length : Int) ≤ (n : Int) := by omega
        have d4 : decide (st.l.length ≤ n) = true := by simp; omega
        clear hex hne hlt2 h10
        by_cases h9 : n = 9
        · have d5 : ((n : Int) == 9) = true := by simp; omega
          clear h9
          go_wp2
          go_quiet ((go_at_call 24; refine quiet_of2 (HLF.out _ (H.out.drewN _))))
          go_wp2_with (first
            | (go_at_call 24; refine (HLF.out _ (H.out.drewN _)).mono ?_; rintro e w1 ⟨rfl, q1, rfl⟩)
            | (go_at_call 76; refine (HG.out _ ((H.out.drewN _))).mono ?_; rintro e w2 ⟨rfl, hr, ht⟩; have HR := Hid.mk' hr; have HT := Hid.mk' ht; clear hr ht))
          go_ret
          exact ⟨by rw [hE.out]; rfl, by rw [hE.out]; exact HR.out, (Tch.of_ext ((Ext.refl w).drewN _)).trans HT.out⟩
        · have d5 : ((n : Int) == 9) = false := by simp; omega
          clear h9
          go_wp2
          go_quiet ((go_at_call 24; refine quiet_of2 (HLF.out _ (H.out.drewN _))))
          go_wp2_with (first
            | (go_at_call 24; refine (HLF.out _ (H.out.drewN _)).mono ?_; rintro e w1 ⟨rfl, q1, rfl⟩)
            | (go_at_call 76; refine (HG.out _ ((H.out.drewN _))).mono ?_; rintro e w2 ⟨rfl, hr, ht⟩; have HR := Hid.mk' hr; have HT := Hid.mk' ht; clear hr ht))
          go_ret
          exact ⟨by rw [hE.out]; rfl, by rw [hE.out]; exact HR.out, (Tch.of_ext ((Ext.refl w).drewN _)).trans HT.out⟩

end Go.Proofs.Ytmpnopjkpamhaaa
