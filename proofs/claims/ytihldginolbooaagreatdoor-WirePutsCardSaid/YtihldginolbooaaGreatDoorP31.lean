/-
What is known of a message that is right; how long its bytes are.
-/
import Derived.Deep.CutBlock
import Derived.Test.YtihldginolbooaaGreatDoorP26
import Derived.Test.YtihldginolbooaaGreatDoorP30
import Derived.Test.YtihldginolbooaaGreatDoorP27
import Derived.Test.YtihldginolbooaaGreatDoorP14
import Derived.Test.YtihldginolbooaaGreatDoorP28
import Derived.Test.YtihldginolbooaaGreatDoorP21
import Derived.Test.YtihldginolbooaaGreatDoorP10
import Derived.Test.YtihldginolbooaaGreatDoorP9
import Derived.Test.YtihldginolbooaaGreatDoorP20
namespace Go.Proofs.YtihldginolbooaaGreatDoor
open Go.RowKit

theorem named_le {s : ByteArray} (h : namedB s = true) : s.size ≤ 31 := by
  unfold namedB at h
  rw [Bool.and_eq_true, decide_eq_true_eq] at h
  exact h.1.2
theorem Rl.right_nm {r : Rl} (h : r.right = 0) : r.nm.size ≤ 31 := by
  unfold Rl.right at h
  by_cases h1 : r.oid = 0 ∨ r.ver = 0
  · rw [if_pos h1] at h; cases h
  rw [if_neg h1] at h
  by_cases h2 : namedB r.nm = false
  · rw [if_pos h2] at h; cases h
  exact named_le (by simpa using h2)
theorem Rl.right_wr {r : Rl} (h : r.right = 0) : ∀ c ∈ r.cols, c.wr := by
  have h3 : firstE (colAt r.cols) r.cols.length = 0 := by
    apply Classical.byContradiction
    intro hne
    unfold Rl.right at h
    rw [if_pos hne] at h
    repeat' split at h
    all_goals first | omega | cases h | exact hne h
  intro c hc
  obtain ⟨i, hi, rfl⟩ := List.getElem_of_mem hc
  have h4 := firstE_all h3 i hi
  rw [colAt_lt hi] at h4
  unfold colE at h4
  by_cases h1 : namedB r.cols[i].nm = false
  · rw [if_pos h1] at h4; cases h4
  rw [if_neg h1] at h4
  by_cases h5 : (r.cols.take i).any (fun o => decide (o.nm = r.cols[i].nm)) = true
  · rw [if_pos h5] at h4; cases h4
  rw [if_neg h5] at h4
  by_cases h6 : r.cols[i].ty < 1 ∨ 6 < r.cols[i].ty
  · rw [if_pos h6] at h4; cases h4
  have := named_le (s := r.cols[i].nm) (by simpa using h1)
  exact ⟨by omega, by omega, by omega⟩

/-- What is known of a message that lies somewhere. -/
structure ML.okr (p : ML) : Prop where
  len : p.r.r.cols.length ≤ 1000
  nm : p.r.r.nm.size ≤ 9223372036854775807
  cs : ∀ c ∈ p.r.r.cols, c.nm.size ≤ 9223372036854775807
  sm : p.e.e.small
  wk : p.e.e.wk
  k0 : 0 ≤ p.k
  k1 : p.k < 256
  x : B32 p.x
  st : 0 ≤ p.st
  st1 : p.st < 18446744073709551616
  n : B32 p.n
  o : B32 p.r.r.oid
  v : B32 p.r.r.ver
  id : 0 ≤ p.r.r.id ∧ p.r.r.id < 256
  wb : ∀ c ∈ p.e.e.b, c.wr
  wa : ∀ c ∈ p.e.e.a, c.wr
  ao : B32 p.e.e.ao
  av : B32 p.e.e.av
  rs : ∀ r ∈ p.e.e.rs, B32 r.o ∧ B32 r.v
  fl : 0 ≤ p.e.e.fl ∧ p.e.e.fl < 256
structure ML.ok (p : ML) : Prop extends p.okr where
  cap : p.r.r.cols.length ≤ p.r.c

theorem msg_rel {m : Msg} {rs : List Rl} (h : msgE m rs = 0) (hk : m.k = 82) : m.r.right = 0 := by
  unfold msgE at h
  (repeat' split at h) <;> first | exact h | (exfalso; omega) | cases h
theorem msg_ev {m : Msg} {rs : List Rl} (h : msgE m rs = 0) (h1 : m.k ≠ 66) (h2 : m.k ≠ 67) (h3 : m.k ≠ 82) : m.e.kind = wkind m.k ∧ evE m.e rs = 0 := by
  unfold msgE at h
  (repeat' split at h) <;> first | (exact ⟨Classical.not_not.1 (by assumption), h⟩) | (exfalso; omega) | cases h
theorem ev_old {e : Ev} {rs : List Rl} (h : evE e rs = 0) (hk : e.kind ≠ 7) : e.old ≤ 2 := by
  unfold evE at h
  by_cases c1 : e.kind < 4 ∨ 7 < e.kind
  · rw [if_pos c1] at h; cases h
  rw [if_neg c1] at h
  by_cases c2 : ownB e = false
  · rw [if_pos c2] at h; cases h
  rw [if_neg c2, if_neg hk] at h
  split at h
  · cases h
  · rename_i r hr
    unfold imgE at h
    by_cases c3 : e.kind < 4 ∨ 6 < e.kind
    · rw [if_pos c3] at h; cases h
    rw [if_neg c3] at h
    by_cases c4 : 2 < e.old
    · rw [if_pos c4] at h; cases h
    · omega
theorem refsW_len : ∀ l : List Rf, (refsW l).length = 8 * l.length
  | [] => rfl
  | r :: l => by
    unfold refsW refW
    simp only [List.length_append, octs_len, List.length_cons, refsW_len l]
    omega
theorem refsW_take {l : List Rf} {k : Nat} (h : k < l.length) : refsW (l.take (k + 1)) = refsW (l.take k) ++ refW l[k].o l[k].v := by
  rw [List.take_succ_eq_append_getElem h, refsW_snoc]
theorem rowsW_len {k ao av old : Int} {lb la : List K} (hb : ∀ c ∈ lb, c.wr) (ha : ∀ c ∈ la, c.wr) (hnb : lb.length ≤ 1000) (hna : la.length ≤ 1000) : (rowsW k ao av old lb la).length ≤ 10000000 := by
  have h1 := imgW_len 75 lb hb
  have h2 := imgW_len 79 lb hb
  have h3 := imgW_len 78 la ha
  have h5 : 3010 * lb.length ≤ 3010 * 1000 := Nat.mul_le_mul_left _ hnb
  have h6 : 3010 * la.length ≤ 3010 * 1000 := Nat.mul_le_mul_left _ hna
  have h7 : (if old = 1 then imgW 75 lb else if old = 2 then imgW 79 lb else []).length ≤ 3010 * 1000 + 2 := by
    split
    · omega
    · split
      · omega
      · simp
  have h8 : (if k = 68 then [] else imgW 78 la).length ≤ 3010 * 1000 + 2 := by
    split
    · simp
    · omega
  unfold rowsW refW
  simp only [List.length_append, octs_len]
  omega
/-- A body that is put is short. -/
theorem body_len {m : Msg} {rs : List Rl} (h : msgE m rs = 0) (hs : m.e.small) (hb : ∀ c ∈ m.e.b, c.wr) (ha : ∀ c ∈ m.e.a, c.wr) : (bodyW m).length ≤ 10000000 := by
  unfold bodyW
  by_cases h1 : m.k = 66
  · rw [if_pos h1]; simp only [List.length_append, octs_len]; omega
  rw [if_neg h1]
  by_cases h2 : m.k = 67
  · rw [if_pos h2]; simp only [List.length_append, octs_len]; omega
  rw [if_neg h2]
  by_cases h3 : m.k = 82
  · rw [if_pos h3]
    have hr := msg_rel h h3
    have h4 := Rl.right_nm hr
    have h5 := Rl.cols_le hr
    have h6 := colsW_len m.r.cols (Rl.right_wr hr)
    unfold relW refW nameW
    simp only [List.length_append, octs_len, strL_len]
    omega
  rw [if_neg h3]
  by_cases h4 : m.k = 84
  · rw [if_pos h4]
    have := hs.r
    simp only [List.length_append, octs_len, refsW_len]
    omega
  rw [if_neg h4]
  exact rowsW_len (k := m.k) (ao := m.e.ao) (av := m.e.av) (old := m.e.old) hb ha hs.b hs.a

end Go.Proofs.YtihldginolbooaaGreatDoor

/-
A message's bytes: the program's Put.
-/
namespace Go.Proofs.YtihldginolbooaaGreatDoor
open Go.RowKit

theorem OB.one {w : World} {g : Nat} {x : Int} (h : Blk w g #[.int .u8 x] 5) : OB w g (.slice (some ⟨g, 0, none⟩) 1 1) [x] :=
  ⟨rfl, .inr ⟨g, 1, #[.int .u8 x], rfl, Nat.le_refl _, h, Nat.le_refl _, by decide, rfl, rfl⟩⟩
theorem WB.fresh (w : World) : WB (w.alloc (.cells #[.slice none 0 0] 82)) w.heap.size none [] := ⟨_, Blk.new w _ _, OB.nil _ _, rfl⟩

set_option maxRecDepth 100000 in set_option maxHeartbeats 8000000 in
theorem put_any (p : ML) (N gc : Nat) (cv : Value) (ps : List RR) (w : World) (hp : p.at 5 K.pc w) (ho : p.ok) (hk : Kin w) (hc : Ca w N gc cv ps) (ht : Tab w) :
    Calls Tryz.prog 8 #[.pointer (some ⟨gc, 0, none⟩), p.agg] w fun e w' => ∃ v, e = .returned (.tuple #[v, .int .i64 (msgE p.m (ps.map RR.r))]) ∧ OB w' w.heap.size v (msgW p.m (ps.map RR.r)) ∧ Ext w w' := by
  have HMR := Hid.mk' (fun W (h : Ext w W) => mright_any p N gc cv ps W (hp.ext h) ho.len ho.cap ho.nm ho.cs ho.sm ho.wk ho.k0 ho.k1 (hk.ext h) (hc.ext h))
  have HBL := Hid.mk' (fun (h : msgE p.m (ps.map RR.r) = 0) => body_len (m := p.m) h ho.sm ho.wb ho.wa)
  have HRR := Hid.mk' (fun (h : msgE p.m (ps.map RR.r) = 0) => msg_rel (m := p.m) h)
  have HP := Hid.mk' hp
  have HOK := Hid.mk' ho
  have HT := Hid.mk' ht
  have HMW := Hid.mk' (show msgW p.m (ps.map RR.r) = if msgE p.m (ps.map RR.r) ≠ 0 then [] else p.k :: (octs (bodyW p.m).length 4 ++ bodyW p.m) from rfl)
  clear hp ho hk hc ht
  obtain ⟨MW, hMW⟩ : ∃ M, M = msgW p.m (ps.map RR.r) := ⟨_, rfl⟩
  obtain ⟨E, hE⟩ : ∃ E, E = msgE p.m (ps.map RR.r) := ⟨_, rfl⟩
  rw [← hMW, ← hE] at HMW
  rw [← hMW, ← hE]
  rw [← hE] at HMR HBL HRR
  clear hE hMW
  obtain ⟨k, x, st, n, ⟨⟨o, v, nm, id, cols⟩, ca, cc⟩, ⟨⟨kd, ao, av, old, b, aa, rs, fl⟩, ba, bc, aad, ac, ra, rc⟩⟩ := p
  rw [show (ML.agg (⟨k, x, st, n, ⟨⟨o, v, nm, id, cols⟩, ca, cc⟩, ⟨⟨kd, ao, av, old, b, aa, rs, fl⟩, ba, bc, aad, ac, ra, rc⟩⟩ : ML)) = .agg #[.int .u8 k, .int .u32 x, .int .u64 st, .int .u32 n, .int .u32 o, .int .u32 v, .string nm, .int .u8 id, .slice ca cols.length cc, .int .u8 kd, .int .u32 ao, .int .u32 av, .int .u8 old, .slice ba b.length bc, .slice aad aa.length ac, .slice ra rs.length rc, .int .u8 fl] from rfl] at HMR ⊢
  unfold ML.m at HMW HBL HRR
  dsimp only at HMW HBL HRR
  have HX0 := Hid.mk' (Blk.new w #[.int .u8 k, .int .u32 x, .int .u64 st, .int .u32 n, .int .u32 o, .int .u32 v, .string nm, .int .u8 id, .slice ca cols.length cc, .int .u8 kd, .int .u32 ao, .int .u32 av, .int .u8 old, .slice ba b.length bc, .slice aad aa.length ac, .slice ra rs.length rc, .int .u8 fl] 56)
  by_cases hE : E = 0
  case neg =>
    have hE1 : (E != 0) = true := by simpa using hE
    have HR := Hid.mk' (HMW.out.trans (if_pos hE))
    clear HMW HBL HRR HP HOK HT hE
    go_enter Tryz.func8, Tryz.ntmps8
    go_wp2_with (first
      | (refine wpList_load_to rfl 56 (.tmp 3) rfl _ _ ?e1 (load17 HX0.out) ?_; (case e1 => go_simp))
      | (go_at_call 11; refine (HMR.out _ (by exact eX)).mono ?_; rintro e w1 ⟨rfl, hb1⟩))
    go_ret2
    exact ⟨_, rfl, by rw [HR.out]; exact OB.nil _ _, by exact eX⟩
  subst hE
  have HB1 := Hid.mk' (HMW.out.trans (if_neg (fun h => h rfl)))
  have hbl := HBL.out rfl
  have HRL := Hid.mk' (HRR.out rfl)
  clear HMW HBL HRR
  go_enter Tryz.func8, Tryz.ntmps8
  go_upto_region 4 with (first
    | (refine wpList_load_to rfl 56 (.tmp 3) rfl _ _ ?e1 (load17 HX0.out) ?_; (case e1 => go_simp))
    | (go_at_call 11; refine (HMR.out _ (by exact eX)).mono ?_; rintro e w1 ⟨rfl, hb1⟩; have HE1 := Hid.mk' (show Ext w w1 by exact eX); have HX1 := Hid.mk' (HX0.out.ext hb1); clear hb1))
  clear HX0 HMR
  have HW3 := Hid.mk' (WB.fresh w1)
  have HX3 := Hid.mk' (show Bx (w1.alloc (.cells #[.slice none 0 0] 82)) w1.heap.size none w.heap.size #[.int .u8 k, .int .u32 x, .int .u64 st, .int .u32 n, .int .u32 o, .int .u32 v, .string nm, .int .u8 id, .slice ca cols.length cc, .int .u8 kd, .int .u32 ao, .int .u32 av, .int .u8 old, .slice ba b.length bc, .slice aad aa.length ac, .slice ra rs.length rc, .int .u8 fl] 56 from ⟨HX1.out.alloc _, fun e => by have := HX1.out.lt; rcases e with e | e; omega; cases e⟩)
  have HE3 := Hid.mk' (show Ext w (w1.alloc (.cells #[.slice none 0 0] 82)) from HE1.out.alloc _)
  have HG := Hid.mk' (show w.heap.size < w1.heap.size from HX1.out.lt)
  have HGS := Hid.mk' (show w1.heap.size < (w1.alloc (.cells #[.slice none 0 0] 82)).heap.size by simp)
  go_upto_region 5 with (fail)
  obtain ⟨w3, hw3⟩ : ∃ W, W = w1.alloc (.cells #[.slice none 0 0] 82) := ⟨_, rfl⟩
  obtain ⟨G, hG⟩ : ∃ G, G = w1.heap.size := ⟨_, rfl⟩
  rw [← hw3] at HW3 HX3 HE3 HGS ⊢
  rw [← hG] at HW3 HX3 HG HGS ⊢
  clear hw3 hG HX1 HE1
  obtain ⟨X, hX⟩ : ∃ X, X = w.heap.size := ⟨_, rfl⟩
  rw [← hX] at HX3 HG ⊢
  have gX := HX3.out.1.cell
  have zX := HX3.out.1.lt
  have HXX := Hid.mk' hX
  clear hX
  have ux := HOK.out.x.u64
  have un := HOK.out.n.u64
  have x0 : 0 ≤ x := HOK.out.x.1
  have n0 : 0 ≤ n := HOK.out.n.1
  have st0 : 0 ≤ st := HOK.out.st
  have hle : w.heap.size ≤ G := by have := HG.out; have := HXX.out; omega
  have HLE := Hid.mk' hle
  clear hle
  go_upto_block 0 with (fail)
  go_cut [] (fun wx => ∃ q', Hid (WB wx G q' (bodyW (⟨k, x, st, n, ⟨o, v, nm, id, cols⟩, ⟨kd, ao, av, old, b, aa, rs, fl⟩⟩ : Msg))) ∧ Hid (Wr w3 wx G none q'))
  case first =>
    by_cases q1 : k = 66
    · have q1' : (k == 66) = true := by simpa using q1
      have HBD := Hid.mk' (show bodyW (⟨k, x, st, n, ⟨o, v, nm, id, cols⟩, ⟨kd, ao, av, old, b, aa, rs, fl⟩⟩ : Msg) = octs x 4 ++ octs st 8 from if_pos q1)
      clear q1
      go_upto_region 9 with (go_at_call 23; refine (number_any G none [] x 4 _ HW3.out (by simp) (by omega) x0).mono ?_; rintro e w4 ⟨rfl, q4, hw4, hr4⟩; have HW4 := Hid.mk' hw4; have HR4 := Hid.mk' hr4; have HX4 := Hid.mk' (HX3.out.wr hr4); clear hw4 hr4 gX zX)
      have gX := HX4.out.1.cell
      have zX := HX4.out.1.lt
      go_wp2_with (go_at_call 23; refine (number_any G q4 _ st 8 _ HW4.out (by simp [octs_len]) (by omega) st0).mono ?_; rintro e w5 ⟨rfl, q5, hw5, hr5⟩; have HW5 := Hid.mk' hw5; have HR5 := Hid.mk' (HR4.out.trans hr5); clear hw5 hr5 gX zX)
      go_meet
      case rel => exact ⟨q5, Hid.mk' (by rw [HBD.out]; simpa using HW5.out), HR5⟩
    have q1' : (k == 66) = false := by simpa using q1
    by_cases q2 : k = 67
    · have q2' : (k == 67) = true := by simpa using q2
      have HBD := Hid.mk' (show bodyW (⟨k, x, st, n, ⟨o, v, nm, id, cols⟩, ⟨kd, ao, av, old, b, aa, rs, fl⟩⟩ : Msg) = octs x 4 ++ octs n 4 from (if_neg q1).trans (if_pos q2))
      clear q1 q2
      go_upto_region 12 with (go_at_call 23; refine (number_any G none [] x 4 _ HW3.out (by simp) (by omega) x0).mono ?_; rintro e w4 ⟨rfl, q4, hw4, hr4⟩; have HW4 := Hid.mk' hw4; have HR4 := Hid.mk' hr4; have HX4 := Hid.mk' (HX3.out.wr hr4); clear hw4 hr4 gX zX)
      have gX := HX4.out.1.cell
      have zX := HX4.out.1.lt
      go_wp2_with (go_at_call 23; refine (number_any G q4 _ n 4 _ HW4.out (by simp [octs_len]) (by omega) n0).mono ?_; rintro e w5 ⟨rfl, q5, hw5, hr5⟩; have HW5 := Hid.mk' hw5; have HR5 := Hid.mk' (HR4.out.trans hr5); clear hw5 hr5 gX zX)
      go_meet
      case rel => exact ⟨q5, Hid.mk' (by rw [HBD.out]; simpa using HW5.out), HR5⟩
    have q2' : (k == 67) = false := by simpa using q2
    by_cases q3 : k = 82
    · have q3' : (k == 82) = true := by simpa using q3
      have HBD := Hid.mk' (show bodyW (⟨k, x, st, n, ⟨o, v, nm, id, cols⟩, ⟨kd, ao, av, old, b, aa, rs, fl⟩⟩ : Msg) = relW ⟨o, v, nm, id, cols⟩ from (if_neg q1).trans ((if_neg q2).trans (if_pos q3)))
      have hr := HRL.out q3
      have h4 := Rl.right_nm hr
      have HC := Hid.mk' (Rl.right_wr hr)
      dsimp only at h4 HC
      clear q1 q2 q3 hr
      have HRE := Hid.mk' (fun W (h : Ext w W) hw => wrel_any G none [] o v nm id cols ca cc w W hw h HLE.out (by simp) HP.out.1 HOK.out.len HOK.out.o HOK.out.v (by omega) HOK.out.id HC.out)
      clear h4
      go_wp2_with (go_at_call 24; refine (HRE.out _ HE3.out HW3.out).mono ?_; rintro e w5 ⟨rfl, q5, hw5, hr5⟩; have HW5 := Hid.mk' hw5; have HR5 := Hid.mk' hr5; clear hw5 hr5 gX zX)
      go_meet
      case rel => exact ⟨q5, Hid.mk' (by rw [HBD.out]; simpa using HW5.out), HR5⟩
    have q3' : (k == 82) = false := by simpa using q3
    by_cases q4 : k = 84
    · have q4' : (k == 84) = true := by simpa using q4
      have HBD := Hid.mk' (show bodyW (⟨k, x, st, n, ⟨o, v, nm, id, cols⟩, ⟨kd, ao, av, old, b, aa, rs, fl⟩⟩ : Msg) = octs rs.length 1 ++ (octs fl 1 ++ refsW rs) from (if_neg q1).trans ((if_neg q2).trans ((if_neg q3).trans (if_pos q4))))
      clear q1 q2 q3 q4
      have hrl : rs.length ≤ 1000 := HOK.out.sm.r
      have uf := u64_small (n := fl) HOK.out.fl.1 (by have := HOK.out.fl.2; dsimp only at this; omega)
      have ul := u64_small (n := (rs.length : Int)) (by omega) (by omega)
      have f0 : 0 ≤ fl := HOK.out.fl.1
      go_upto_region 17 with (go_at_call 23; refine (number_any G none [] rs.length 1 _ HW3.out (by simp) (by omega) (by omega)).mono ?_; rintro e w4 ⟨rfl, q4, hw4, hr4⟩; have HW4 := Hid.mk' hw4; have HR4 := Hid.mk' hr4; have HX4 := Hid.mk' (HX3.out.wr hr4); clear hw4 hr4 gX zX)
      have gX := HX4.out.1.cell
      have zX := HX4.out.1.lt
      go_upto_region 18 with (go_at_call 23; refine (number_any G q4 _ fl 1 _ HW4.out (by simp [octs_len]) (by omega) f0).mono ?_; rintro e w5 ⟨rfl, q5, hw5, hr5⟩; have HW5 := Hid.mk' hw5; have HR5 := Hid.mk' (HR4.out.trans hr5); have HX5 := Hid.mk' (HX4.out.wr hr5); clear hw5 hr5 gX zX)
      have gX := HX5.out.1.cell
      have zX := HX5.out.1.lt
      clear HX4 HW4 HR4
      have HEE := Hid.mk' (fun q' W (k : Wr w3 W G none q') => Wr.ext HE3.out HW3.out HLE.out k)
      obtain ⟨hd, hhd⟩ : ∃ x, x = [] ++ octs (rs.length : Int) 1 ++ octs fl 1 := ⟨_, rfl⟩
      rw [← hhd] at HW5
      have HHL := Hid.mk' (show hd.length ≤ 2 by rw [hhd]; simp [octs_len])
      have HHD := Hid.mk' hhd
      clear hhd
      go_wp2
      go_loopg [72] rs.length (fun y i wr => ∃ (j : Nat) (q' : Option Nat), y + j = rs.length ∧ i = .int .i64 j ∧ Hid (WB wr G q' (hd ++ refsW (rs.take j))) ∧ Hid (Wr w3 wr G none q'))
      case atStart => exact ⟨0, q5, rfl, rfl, Hid.mk' (by rw [List.take_zero]; exact (List.append_nil _).symm ▸ HW5.out), HR5⟩
      case round =>
        obtain ⟨j, q', hj, rfl, hW, hR⟩ := hrel
        clear gX zX
        by_cases hlt : j < rs.length
        · obtain ⟨b', o', rfl, hb2, hx2⟩ := HP.out.2.r.at_ (i := j) (by simpa using hlt)
          have HE := Hid.mk' (HEE.out _ _ hR.out)
          obtain ⟨f0, f1⟩ := Rf.at_ hlt hx2 hb2 HE.out
          have hbw : b' < wr.heap.size := Nat.lt_of_lt_of_le hb2 HE.out.size
          have HCT := Hid.mk' (refsW_take hlt)
          have HRB := Hid.mk' (HOK.out.rs _ (List.getElem_mem hlt))
          have HLL := Hid.mk' (refsW_len (rs.take j))
          obtain ⟨r, hr⟩ : ∃ r, r = rs[j]'hlt := ⟨_, rfl⟩
          rw [← hr] at f0 f1 HCT HRB
          clear hr hx2 hb2
          have HLT := Hid.mk' hlt
          have i1 : (j : Int) < (rs.length : Int) := by omega
          have HW7 := Hid.mk' (hW.out.ext ((Ext.refl wr).alloc (.cells #[.int .u32 r.o, .int .u32 r.v] 46)))
          have HX7 := Hid.mk' (Bx.new hW.out #[.int .u32 r.o, .int .u32 r.v] 46)
          have HR7 := Hid.mk' (hR.out.post ((Ext.refl wr).alloc (.cells #[.int .u32 r.o, .int .u32 r.v] 46)))
          go_upto_region 21 with (fail)
          clear f0 f1 hbw
          have gC := HX7.out.1.cell
          have zC := HX7.out.1.lt
          go_wp2_with (go_at_call 25; refine (wref_any G q' _ r.o r.v _ HW7.out (by have := HLL.out; have := HHL.out; rw [List.length_append]; rw [List.length_take] at *; omega) HRB.out.1 HRB.out.2).mono ?_; rintro e w8 ⟨rfl, q8, hw8, hr8⟩; have HW8 := Hid.mk' hw8; have HR8 := Hid.mk' (HR7.out.trans hr8); clear hw8 hr8 gC zC)
          go_roundg (rs.length - (j + 1))
          case measure => have := HLT.out; omega
          case rel => exact ⟨j + 1, q8, Nat.sub_add_cancel HLT.out, by go_num, Hid.mk' (by rw [HCT.out, ← List.append_assoc]; exact HW8.out), HR8⟩
        · obtain rfl : j = rs.length := by omega
          rw [List.take_length, HHD.out] at hW
          go_wp2
          go_meet
          case rel => exact ⟨q', Hid.mk' (by rw [HBD.out]; simpa using hW.out), hR⟩
    have q4' : (k == 84) = false := by simpa using q4
    have HBD := Hid.mk' (show bodyW (⟨k, x, st, n, ⟨o, v, nm, id, cols⟩, ⟨kd, ao, av, old, b, aa, rs, fl⟩⟩ : Msg) = rowsW k ao av old b aa from (if_neg q1).trans ((if_neg q2).trans ((if_neg q3).trans (if_neg q4))))
    clear q1 q2 q3 q4
    have HRO := Hid.mk' (fun W (h : Ext w W) hw => wrows_any G none [] k x st n o v nm id cols ca cc kd ao av old b aa rs ba aad ra bc ac rc fl w W hw h HLE.out (by simp) HP.out.2.b HP.out.2.a HOK.out.sm.b HOK.out.sm.a HOK.out.wb HOK.out.wa HOK.out.ao HOK.out.av HT.out)
    clear gX zX
    go_wp2_with (first
      | (refine wpList_load_to rfl 56 (.tmp 3) rfl _ _ ?e1 (load17 HX3.out.1) ?_; (case e1 => go_simp))
      | (go_at_call 26; refine (HRO.out _ HE3.out HW3.out).mono ?_; rintro e w5 ⟨rfl, q5, hw5, hr5⟩; have HW5 := Hid.mk' hw5; have HR5 := Hid.mk' hr5; clear hw5 hr5))
    go_meet
    case rel => exact ⟨q5, Hid.mk' (by rw [HBD.out]; simpa using HW5.out), HR5⟩
  case rest =>
  obtain ⟨q', HW4, HR4⟩ := hcut
  have HE4 := Hid.mk' (Wr.ext HE3.out HW3.out HLE.out HR4.out)
  have HX4 := Hid.mk' (HX3.out.wr HR4.out)
  clear gX zX HX3 HR4 HRL HP HOK HT HW3 HE3 ux un x0 n0 st0
  have gX := HX4.out.1.cell
  have zX := HX4.out.1.lt
  obtain ⟨BW, hBW⟩ : ∃ z, z = bodyW (⟨k, x, st, n, ⟨o, v, nm, id, cols⟩, ⟨kd, ao, av, old, b, aa, rs, fl⟩⟩ : Msg) := ⟨_, rfl⟩
  rw [← hBW] at HW4 HB1 hbl
  clear hBW
  have HGE := Hid.mk' (show G < wc.heap.size from HW4.out.lt)
  go_upto_region 24 with (fail)
  obtain ⟨A, hA⟩ : ∃ A, A = wc.heap.size := ⟨_, rfl⟩
  obtain ⟨w5, hw5⟩ : ∃ W, W = (wc.alloc (.cells #[.int .u8 k] 5)).alloc (.cells #[.slice (some ⟨wc.heap.size, 0, none⟩) 1 1] 82) := ⟨_, rfl⟩
  have HE5 := Hid.mk' (show Ext wc w5 by rw [hw5]; exact ((Ext.refl wc).alloc _).alloc _)
  have HBB := Hid.mk' (show Blk w5 wc.heap.size #[.int .u8 k] 5 by rw [hw5]; exact (Blk.new wc #[.int .u8 k] 5).alloc _)
  have HBG := Hid.mk' (show Blk w5 (wc.heap.size + 1) #[.slice (some ⟨wc.heap.size, 0, none⟩) 1 1] 82 by rw [hw5]; exact Blk.new' (w := wc.alloc (.cells #[.int .u8 k] 5)) _ _ (by simp))
  have HSZ := Hid.mk' (show w5.heap.size = wc.heap.size + 2 by rw [hw5]; simp)
  rw [← hw5]
  rw [← hA] at HBB HBG HSZ HGE ⊢
  have hle5 : w.heap.size ≤ A := by rw [hA]; exact HE4.out.size
  have HLE5 := Hid.mk' hle5
  have HAE := Hid.mk' hA
  clear hw5 hA hle5 gX zX
  have HWG := Hid.mk' (show WG w5 A (A + 1) (some A) [k] from ⟨_, HBG.out, OB.one HBB.out, fun e => by have e : some A = some (A + 1) := e; injection e with e; omega, rfl⟩)
  have HW5 := Hid.mk' (HW4.out.ext HE5.out)
  obtain ⟨v5, hb5, ho5, hq5⟩ := HW5.out
  obtain ⟨va, vc, rfl⟩ := ho5.shape
  obtain ⟨lv, hlv⟩ : ∃ L, L = BW.length := ⟨_, rfl⟩
  rw [← hlv] at hb5 ho5 hq5 HB1 hbl
  have HB5 := Hid.mk' hb5
  have HO5 := Hid.mk' ho5
  have HLV := Hid.mk' hlv
  have gG := hb5.cell0
  have zG := hb5.lt
  have HNA := Hid.mk' (show ∀ b, (Value.slice va lv vc).ownBlock = some b → b < A from fun b e => by have := (HW4.out.qlt (hq5 ▸ e)).2; have := HAE.out; omega)
  clear hb5 ho5 hlv hq5 HW4 HBB HBG
  have ul := u64_small (n := (lv : Int)) (by omega) (by omega)
  go_upto_region 25 with (go_at_call 23; refine (number_gen A (A + 1) (some A) [k] lv 4 _ HWG.out (by have := HSZ.out; omega) (by simp) (by omega) (by omega)).mono ?_; rintro e w6 ⟨rfl, q6, hw6, hr6⟩; have HW6 := Hid.mk' hw6; have HR6 := Hid.mk' hr6; clear hw6 hr6 gG zG)
  have HB6 := Hid.mk' (HB5.out.wr HR6.out (fun e => by have := HGE.out; rcases e with e | e; omega; injection e with e; omega))
  have HO6 := Hid.mk' (HO5.out.kp HR6.out.1 (fun b e h => by have h1 := HNA.out b e; have h : b = A + 1 ∨ some A = some b := h; rcases h with h | h; omega; injection h with h; omega))
  obtain ⟨v6, hb6, ho6, hn6, rfl⟩ := HW6.out
  obtain ⟨a6, c6, rfl⟩ := ho6.shape
  obtain ⟨l6, hl6⟩ : ∃ L, L = ([k] ++ octs (lv : Int) 4).length := ⟨_, rfl⟩
  rw [← hl6] at hb6 ho6 hn6 HR6
  have HL6 := Hid.mk' (show l6 = 5 by rw [hl6]; simp [octs_len])
  have HBW6 := Hid.mk' hb6
  have HOW6 := Hid.mk' ho6
  have HN6 := Hid.mk' hn6
  clear hb6 ho6 hn6 hl6 HW6 HB5 HO5
  have hA0 : Hid ((fun w' => w'.cell? ⟨G, 0, none⟩ = some (.slice va lv vc) ∧ w'.cell? ⟨A + 1, 0, none⟩ = some (.slice a6 l6 c6) ∧ G < w'.heap.size ∧ A + 1 < w'.heap.size) w6.drew) := Hid.mk' ⟨HB6.out.cell0, HBW6.out.cell0, HB6.out.lt, HBW6.out.lt⟩
  refine wp_region_head 9 (fun w' => w'.cell? ⟨G, 0, none⟩ = some (.slice va lv vc) ∧ w'.cell? ⟨A + 1, 0, none⟩ = some (.slice a6 l6 c6) ∧ G < w'.heap.size ∧ A + 1 < w'.heap.size) (by kernel_rfl) (by decide) ?_
  (refine wpHd_take (i := 0) (v := ?_) rfl (by kernel_rfl) (by kernel_rfl) (by kernel_rfl) (fun _ _ _ h => h) (Or.inl ⟨by rfl, ?_⟩) hA0.out ?_; rotate_left 1; · (intro w' hS'; (try dsimp only at hS'); go_split_ands; go_simp; try with_reducible rfl))
  (refine wpHd_take (i := 1) (v := ?_) rfl (by kernel_rfl) (by kernel_rfl) (by kernel_rfl) (fun _ _ _ h => h) (Or.inl ⟨by rfl, ?_⟩) hA0.out ?_; rotate_left 1; · (intro w' hS'; (try dsimp only at hS'); go_split_ands; go_simp; try with_reducible rfl))
  (refine wpHd_take (i := 2) (v := ?_) rfl (by kernel_rfl) (by kernel_rfl) (by kernel_rfl) (fun _ _ _ h => h) (Or.inl ⟨by rfl, ?_⟩) hA0.out ?_; rotate_left 1; · (intro w' hS'; (try dsimp only at hS'); go_split_ands; go_simp; try with_reducible rfl))
  (refine wpHd_take (i := 3) (v := ?_) rfl (by kernel_rfl) (by kernel_rfl) (by kernel_rfl) (fun _ _ _ h => h) (Or.inl ⟨by rfl, ?_⟩) hA0.out ?_; rotate_left 1; · (intro w' hS'; (try dsimp only at hS'); go_split_ands; go_simp; try with_reducible rfl))
  (refine wpHd_take (i := 4) (v := ?_) rfl (by kernel_rfl) (by kernel_rfl) (by kernel_rfl) (fun _ _ _ h => h) (Or.inl ⟨by rfl, ?_⟩) hA0.out ?_; rotate_left 1; · (intro w' hS'; (try dsimp only at hS'); go_split_ands; go_simp; try with_reducible rfl))
  (refine wpHd_take (i := 5) (v := ?_) rfl (by kernel_rfl) (by kernel_rfl) (by kernel_rfl) (fun _ _ _ h => h) (Or.inl ⟨by rfl, ?_⟩) hA0.out ?_; rotate_left 1; · (intro w' hS'; (try dsimp only at hS'); go_split_ands; go_simp; try with_reducible rfl))
  (refine wpHd_take (i := 6) (v := ?_) rfl (by kernel_rfl) (by kernel_rfl) (by kernel_rfl) (fun _ _ _ h => h) (Or.inl ⟨by rfl, ?_⟩) hA0.out ?_; rotate_left 1; · (intro w' hS'; (try dsimp only at hS'); go_split_ands; go_simp; try with_reducible rfl))
  (refine wpHd_take (i := 7) (v := ?_) rfl (by kernel_rfl) (by kernel_rfl) (by kernel_rfl) (fun _ _ _ h => h) (Or.inl ⟨by rfl, ?_⟩) hA0.out ?_; rotate_left 1; · (intro w' hS'; (try dsimp only at hS'); go_split_ands; go_simp; try with_reducible rfl))
  refine wpHd_one (i := 8) rfl rfl (by kernel_rfl) (fun KK hK => ?_)
  refine wp_app_bytes (.tmp 96) (.tmp 100) ?ho A (.slice a6 l6 c6) ([k] ++ octs (lv : Int) 4) ?ev1 (HOW6.out.ext ((Ext.refl _).drew)) (.slice va lv vc) BW ?ev2 ?c1 ?c2 ?c3 ?_
  case ho => rfl
  case ev1 => (try go_simp); (try rfl)
  case ev2 => (try go_simp); (try rfl)
  case c1 => exact NB.of_own (HO6.out.ext ((Ext.refl _).drew))
  case c2 => have := HLV.out; simp [octs_len]; omega
  case c3 => have := HSZ.out; have := HR6.out.1.size; simp; omega
  intro v' w7 ho7 hg7 ha7
  have HO7 := Hid.mk' ho7
  have HK7 := Hid.mk' (show Wr w6 w7 (A + 1) (Value.slice a6 l6 c6).ownBlock v'.ownBlock from (Wr.of_ext ((Ext.refl _).drew)).trans ⟨(Kp.of_grown hg7).mono (fun x hx _ => .inr hx), ha7⟩)
  have HB7 := Hid.mk' (HB6.out.kp HK7.out.1 (fun e => by
    have h := HR6.out.2
    rcases e with e | e
    · have := HGE.out; omega
    · rcases h with h | ⟨b, h, hb⟩
      · rw [h] at e; injection e with e; have := HGE.out; omega
      · rw [h] at e; injection e with e; have := HGE.out; have := HSZ.out; omega))
  have HBW7 := Hid.mk' ((HBW6.out.ext ((Ext.refl _).drew)).kp (Kp.of_grown hg7) (fun e => HN6.out e))
  clear ho7 hg7 ha7
  refine hK.out _ _ ⟨HB7.out.cell0, HBW7.out.cell0, HB7.out.lt, HBW7.out.lt⟩ (fun hA => ?_)
  clear hK KK hA hA0
  refine wpHd_tail (by kernel_rfl) ?_
  simp only [List.drop_succ_cons, List.drop_zero]
  go_wp2
  go_ret2
  refine ⟨_, rfl, ?_, ?_⟩
  · have h := HO7.out.base HLE5.out
    rw [HB1.out]
    simpa using h
  · exact WG.wext (HE4.out.trans HE5.out) HWG.out (by have := HLE5.out; omega) HLE5.out (HR6.out.trans HK7.out)

end Go.Proofs.YtihldginolbooaaGreatDoor

/-
What the chapter's example says.
-/
namespace Go.Proofs.YtihldginolbooaaGreatDoor
open Go.RowKit

/-- The example's message. -/
def exM : ML := ⟨66, 5, 7, 0, ⟨Rl0, none, 0⟩, ⟨Ev0, none, 0, none, 0, none, 0⟩⟩
theorem exM_e : msgE exM.m [] = 0 := by
  have h : exM.m = exM.m.own := rfl
  unfold msgE
  rw [if_neg (by decide), if_neg (by rw [msgB_true.2 h]; simp), if_pos (by left; rfl), if_neg (by decide)]
theorem exM_w : msgW exM.m [] = [66, 0, 0, 0, 12, 0, 0, 0, 5, 0, 0, 0, 0, 0, 0, 0, 7] := by
  unfold msgW
  rw [if_neg (by rw [exM_e]; simp)]
  decide +kernel
theorem exM_ok : exM.ok where
  len := by decide
  cap := by decide
  nm := by decide
  cs := by intro c hc; cases hc
  sm := ⟨by decide, by decide, by decide⟩
  wk := ⟨(fun c hc => by cases hc), (fun c hc => by cases hc), by decide⟩
  k0 := by decide
  k1 := by decide
  x := by unfold B32; decide
  st := by decide
  st1 := by decide
  n := by unfold B32; decide
  o := by unfold B32; decide
  v := by unfold B32; decide
  id := by decide
  wb := by intro c hc; cases hc
  wa := by intro c hc; cases hc
  ao := by unfold B32; decide
  av := by unfold B32; decide
  rs := by intro c hc; cases hc
  fl := by decide
theorem Ca.fresh (w : World) : Ca (w.alloc (.cells #[.slice none 0 0] 146)) 0 w.heap.size (.slice none 0 0) [] :=
  ⟨Blk.new _ _ _, World.ownsRow_nil _ _ _ _, Nat.zero_le _, (fun e => by cases e), (fun p h => by cases h), (fun p h => by cases h), CatOk.nil, (fun p h => by cases h)⟩

set_option maxRecDepth 100000 in set_option maxHeartbeats 4000000 in
theorem awake20_any (w : World) (hk : Kin w) (ht : Tab w) : Calls Tryz.prog 18 #[] w fun e w' => e = .returned (.bool true) ∧ Ext w w' := by
  have HPU := Hid.mk' (put_any exM 0 w.heap.size (.slice none 0 0) [] (w.alloc (.cells #[.slice none 0 0] 146)) ⟨RR.in_zero _, EL.at_zero _ _ _⟩ exM_ok (hk.ext ((Ext.refl w).alloc _)) (Ca.fresh w) (ht.ext ((Ext.refl w).alloc _)))
  rw [show ([] : List RR).map RR.r = [] from rfl, exM_e, exM_w] at HPU
  rw [show exM.agg = .agg #[.int .u8 66, .int .u32 5, .int .u64 7, .int .u32 0, .int .u32 0, .int .u32 0, .string ⟨#[]⟩, .int .u8 0, .slice none 0 0, .int .u8 0, .int .u32 0, .int .u32 0, .int .u8 0, .slice none 0 0, .slice none 0 0, .slice none 0 0, .int .u8 0] from rfl] at HPU
  obtain ⟨S, hS⟩ : ∃ S, S = strOfNums [66, 0, 0, 0, 12, 0, 0, 0, 5, 0, 0, 0, 0, 0, 0, 0, 7] := ⟨_, rfl⟩
  have HS := Hid.mk' hS
  clear hk ht hS
  go_enter Tryz.func18, Tryz.ntmps18
  go_upto_region 2 with (first
    | (go_at_call 46; refine (new_any _).mono ?_; rintro e w1 ⟨rfl, rfl⟩)
    | (go_at_call 8; refine HPU.out.mono ?_; rintro e w2 ⟨v, rfl, ho, hb2⟩; have HO := Hid.mk' ho; have HB2 := Hid.mk' (show Ext w w2 by exact eX); clear hb2 ho))
  have hc1 : (convert 42 9 v).run Tryz.prog w2 = .ok (.string S) w2 := by rw [HS.out]; exact conv_Sl HO.out.sl
  have hc2 : (convert 42 9 (.slice (some ⟨w2.heap.size, 0, none⟩) 17 17)).run Tryz.prog (w2.alloc (.cells #[.int .u8 66, .int .u8 0, .int .u8 0, .int .u8 0, .int .u8 12, .int .u8 0, .int .u8 0, .int .u8 0, .int .u8 5, .int .u8 0, .int .u8 0, .int .u8 0, .int .u8 0, .int .u8 0, .int .u8 0, .int .u8 0, .int .u8 7] 5)) = .ok (.string S) (w2.alloc (.cells #[.int .u8 66, .int .u8 0, .int .u8 0, .int .u8 0, .int .u8 12, .int .u8 0, .int .u8 0, .int .u8 0, .int .u8 5, .int .u8 0, .int .u8 0, .int .u8 0, .int .u8 0, .int .u8 0, .int .u8 0, .int .u8 0, .int .u8 7] 5)) := by
    rw [HS.out]
    exact conv_Sl (fresh_bytes w2 [66, 0, 0, 0, 12, 0, 0, 0, 5, 0, 0, 0, 0, 0, 0, 0, 7] 17 rfl)
  obtain ⟨va, vc, hv⟩ := HO.out.shape
  have hv : v = .slice va 17 vc := hv
  subst hv
  go_wp2
  go_ret
  exact ⟨rfl, by have := HB2.out; exact eX⟩

end Go.Proofs.YtihldginolbooaaGreatDoor

/-
Whether two messages are alike, the reference's.
-/
namespace Go.Proofs.YtihldginolbooaaGreatDoor
open Go.RowKit

set_option maxRecDepth 100000 in set_option maxHeartbeats 8000000 in
theorem msame_any (p q : ML) (w : World) (hp : p.at 6 K.rc w) (hq : q.at 6 K.rc w) (hlen : p.r.r.cols.length ≤ 1000) (hlen2 : q.r.r.cols.length ≤ 9223372036854775807) (h1 : p.e.e.small) (h2 : q.e.e.small) :
    Calls Tryz.prog 13 #[p.agg, q.agg] w fun e w' => e = .returned (.bool (msgB p.m q.m)) ∧ Ext w w' := by
  have HS := Hid.mk' (fun W (h : Ext w W) => rsame8_any p.r q.r W (hp.1.ext h) (hq.1.ext h) hlen hlen2)
  have HE := Hid.mk' (fun W (h : Ext w W) => esame_any p.e q.e W (hp.2.ext h) (hq.2.ext h) h1 h2)
  clear hp hq hlen hlen2 h1 h2
  obtain ⟨k1, x1, st1, n1, ⟨⟨o1, v1, nm1, id1, cols1⟩, a1, c1⟩, ⟨⟨kd1, ao1, av1, old1, b1, aa1, rs1, fl1⟩, ba1, bc1, aad1, ac1, ra1, rc1⟩⟩ := p
  obtain ⟨k2, x2, st2, n2, ⟨⟨o2, v2, nm2, id2, cols2⟩, a2, c2⟩, ⟨⟨kd2, ao2, av2, old2, b2, aa2, rs2, fl2⟩, ba2, bc2, aad2, ac2, ra2, rc2⟩⟩ := q
  unfold ML.agg ML.arr ML.m
  unfold RR.agg at HS
  unfold EL.agg at HE
  dsimp only at HS HE ⊢
  by_cases q1 : k1 = k2
  case neg =>
    have HR := Hid.mk' (show msgB (⟨k1, x1, st1, n1, (⟨o1, v1, nm1, id1, cols1⟩ : Rl), (⟨kd1, ao1, av1, old1, b1, aa1, rs1, fl1⟩ : Ev)⟩ : Msg) (⟨k2, x2, st2, n2, (⟨o2, v2, nm2, id2, cols2⟩ : Rl), (⟨kd2, ao2, av2, old2, b2, aa2, rs2, fl2⟩ : Ev)⟩ : Msg) = false from by
      unfold msgB
      rw [decide_eq_false (fun h => q1 h.1), Bool.false_and, Bool.false_and])
    have q' : (k1 == k2) = false := by simpa using q1
    clear q1 HS HE
    go_enter Tryz.func13, Tryz.ntmps13
    go_wp2
    go_ret
    exact ⟨ret_bool HR.out.symm, by exact eX⟩
  subst q1
  by_cases q2 : x1 = x2
  case neg =>
    have HR := Hid.mk' (show msgB (⟨k1, x1, st1, n1, (⟨o1, v1, nm1, id1, cols1⟩ : Rl), (⟨kd1, ao1, av1, old1, b1, aa1, rs1, fl1⟩ : Ev)⟩ : Msg) (⟨k1, x2, st2, n2, (⟨o2, v2, nm2, id2, cols2⟩ : Rl), (⟨kd2, ao2, av2, old2, b2, aa2, rs2, fl2⟩ : Ev)⟩ : Msg) = false from by
      unfold msgB
      rw [decide_eq_false (fun h => q2 h.2.1), Bool.false_and, Bool.false_and])
    have q' : (x1 == x2) = false := by simpa using q2
    clear q2 HS HE
    go_enter Tryz.func13, Tryz.ntmps13
    go_wp2
    go_ret
    exact ⟨ret_bool HR.out.symm, by exact eX⟩
  subst q2
  by_cases q3 : st1 = st2
  case neg =>
    have HR := Hid.mk' (show msgB (⟨k1, x1, st1, n1, (⟨o1, v1, nm1, id1, cols1⟩ : Rl), (⟨kd1, ao1, av1, old1, b1, aa1, rs1, fl1⟩ : Ev)⟩ : Msg) (⟨k1, x1, st2, n2, (⟨o2, v2, nm2, id2, cols2⟩ : Rl), (⟨kd2, ao2, av2, old2, b2, aa2, rs2, fl2⟩ : Ev)⟩ : Msg) = false from by
      unfold msgB
      rw [decide_eq_false (fun h => q3 h.2.2.1), Bool.false_and, Bool.false_and])
    have q' : (st1 == st2) = false := by simpa using q3
    clear q3 HS HE
    go_enter Tryz.func13, Tryz.ntmps13
    go_wp2
    go_ret
    exact ⟨ret_bool HR.out.symm, by exact eX⟩
  subst q3
  by_cases q4 : n1 = n2
  case neg =>
    have HR := Hid.mk' (show msgB (⟨k1, x1, st1, n1, (⟨o1, v1, nm1, id1, cols1⟩ : Rl), (⟨kd1, ao1, av1, old1, b1, aa1, rs1, fl1⟩ : Ev)⟩ : Msg) (⟨k1, x1, st1, n2, (⟨o2, v2, nm2, id2, cols2⟩ : Rl), (⟨kd2, ao2, av2, old2, b2, aa2, rs2, fl2⟩ : Ev)⟩ : Msg) = false from by
      unfold msgB
      rw [decide_eq_false (fun h => q4 h.2.2.2), Bool.false_and, Bool.false_and])
    have q' : (n1 == n2) = false := by simpa using q4
    clear q4 HS HE
    go_enter Tryz.func13, Tryz.ntmps13
    go_wp2
    go_ret
    exact ⟨ret_bool HR.out.symm, by exact eX⟩
  subst q4
  have HM := Hid.mk' (show msgB (⟨k1, x1, st1, n1, (⟨o1, v1, nm1, id1, cols1⟩ : Rl), (⟨kd1, ao1, av1, old1, b1, aa1, rs1, fl1⟩ : Ev)⟩ : Msg) (⟨k1, x1, st1, n1, (⟨o2, v2, nm2, id2, cols2⟩ : Rl), (⟨kd2, ao2, av2, old2, b2, aa2, rs2, fl2⟩ : Ev)⟩ : Msg) = (rlB (⟨o1, v1, nm1, id1, cols1⟩ : Rl) (⟨o2, v2, nm2, id2, cols2⟩ : Rl) && evB (⟨kd1, ao1, av1, old1, b1, aa1, rs1, fl1⟩ : Ev) (⟨kd2, ao2, av2, old2, b2, aa2, rs2, fl2⟩ : Ev)) from by
    unfold msgB
    rw [decide_eq_true (And.intro rfl (And.intro rfl (And.intro rfl rfl))), Bool.true_and])
  generalize rlB (⟨o1, v1, nm1, id1, cols1⟩ : Rl) (⟨o2, v2, nm2, id2, cols2⟩ : Rl) = B1 at HS HM
  generalize evB (⟨kd1, ao1, av1, old1, b1, aa1, rs1, fl1⟩ : Ev) (⟨kd2, ao2, av2, old2, b2, aa2, rs2, fl2⟩ : Ev) = B2 at HE HM
  cases B1 with
  | false =>
    rw [Bool.false_and] at HM
    clear HE
    go_enter Tryz.func13, Tryz.ntmps13
    go_wp2_with (go_at_call 39; refine (HS.out _ (by exact eX)).mono ?_; rintro e w2 ⟨rfl, hb2⟩)
    go_ret
    exact ⟨ret_bool HM.out.symm, by exact eX⟩
  | true =>
    rw [Bool.true_and] at HM
    go_enter Tryz.func13, Tryz.ntmps13
    go_wp2_with (first
      | (go_at_call 39; (with_reducible refine (HS.out _ (by exact eX)).mono ?_); rintro e w2 ⟨rfl, hb2⟩; have hE_w2 : Ext ((w.alloc (.cells #[.int .u8 k1, .int .u32 x1, .int .u64 st1, .int .u32 n1, .int .u32 o1, .int .u32 v1, .string nm1, .int .u8 id1, .slice a1 cols1.length c1, .int .u8 kd1, .int .u32 ao1, .int .u32 av1, .int .u8 old1, .slice ba1 b1.length bc1, .slice aad1 aa1.length ac1, .slice ra1 rs1.length rc1, .int .u8 fl1] 35)).alloc (.cells #[.int .u8 k1, .int .u32 x1, .int .u64 st1, .int .u32 n1, .int .u32 o2, .int .u32 v2, .string nm2, .int .u8 id2, .slice a2 cols2.length c2, .int .u8 kd2, .int .u32 ao2, .int .u32 av2, .int .u8 old2, .slice ba2 b2.length bc2, .slice aad2 aa2.length ac2, .slice ra2 rs2.length rc2, .int .u8 fl2] 35)) w2 := (by exact eX); obtain ⟨hc_w2, hf_w2⟩ := hE_w2.cells; have hz_w2 := hE_w2.size)
      | (go_at_call 40; refine (HE.out _ (by exact eX)).mono ?_; rintro e w3 ⟨rfl, hb3⟩))
    go_ret
    exact ⟨ret_bool HM.out.symm, by exact eX⟩

end Go.Proofs.YtihldginolbooaaGreatDoor
