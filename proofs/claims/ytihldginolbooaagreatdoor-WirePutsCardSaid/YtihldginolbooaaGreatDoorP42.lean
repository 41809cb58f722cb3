/-
The walk of WirePuts.
-/
import Derived.Test.YtihldginolbooaaGreatDoorP24
import Derived.Test.YtihldginolbooaaGreatDoorP31
import Derived.Test.YtihldginolbooaaGreatDoorP36
import Derived.Test.YtihldginolbooaaGreatDoorP38
import Derived.Test.YtihldginolbooaaGreatDoorP39
import Derived.Test.YtihldginolbooaaGreatDoorP40
import Derived.Test.YtihldginolbooaaGreatDoorP41
namespace Go.Proofs.YtihldginolbooaaGreatDoor
open Go.RowKit

theorem wpList_load_on {w : World} {ops : Array Oper} {rest : List Oper} {o : Oper} {a : Act} {Q : Exit → Act → World → Prop} (ty : TypeId) (x : Operand) (ho : o.op = .load ty x) (hw : Region.wanted o (yielded ops a.tmps) = true)
    (p v : Value) (hx : a.eval x = p) (hr : (Instr.loadAt ty p).run Tryz.prog w = .ok v w) (h : wpList Tryz.prog ops Q rest (a.put o.dst v) w) : wpList Tryz.prog ops Q (o :: rest) a w := by
  refine wpList_step fun K hK => ?_
  rw [if_pos hw]
  unfold Oper.wp execOp
  simp only [ho, Sem.run_bind, Sem.run_pure, Result.andThen_ok, hx, hr]
  exact hK _ _ h
/-- A guarded number is taken first. -/
theorem onk {P : Program} {ops : Array Oper} {Q : Exit → Act → World → Prop} {md : Region.Mode} {S : World → Prop} {n : Nat} (i : Nat) (d : Tmp) {oi : Oper} {v : Value} {f : Nat} {listed : Array Bool} {a : Act} {w : World} (hS : S w)
    (h : wpHd P md ops Q S n f (listed.setIfInBounds i true) (a.put (some d) v) w)
    (hi : ops[i]? = some oi := by rfl) (hd : oi.dst = some d := by rfl)
    (hB : headB md ops n listed = true := by kernel_rfl) (hf : Region.free md ops listed i = true := by kernel_rfl) (hr : ((Region.ready md ops listed).contains i && decide (i < n)) = true := by kernel_rfl)
    (hQ : ∀ c a w, Q (.panic c) (a.put (some d) v) w → Q (.panic c) a w := by exact fun _ _ _ h => h) (hy : YieldsIf P ops S oi v a := by exact Or.inl ⟨by kernel_rfl, by (intro w' hS'; (obtain ⟨hEs', hcs', hfs'⟩ := hS'); go_simp; try with_reducible rfl)⟩) : wpHd P md ops Q S n (f + 1) listed a w := HG.on i d hS h hi hd hB hf hr hQ hy
/-- What is known of a message of the arguments that is not great. -/
theorem ML.okr_of {p : ML} (hw : p.r.r.wb) (hz : p.e.e.sz) (ht : p.e.e.tw) (hn : p.nums) (hl : p.r.r.cols.length ≤ 20) (he : p.e.e.lit) : p.okr where
  len := by omega
  nm := hw.nm
  cs := hw.cs
  sm := ⟨by have := he.b; omega, by have := he.a; omega, by have := he.r; omega⟩
  wk := ⟨hz.sb, hz.sa, hz.old.1⟩
  k0 := hn.k0
  k1 := hn.k1
  x := hn.x
  st := hn.st
  st1 := hn.st1
  n := hn.n
  o := hn.o
  v := hn.v
  id := hn.id
  wb := fun c hc => ⟨by have := (ht.b c hc).n; omega, (hz.sb c hc).s⟩
  wa := fun c hc => ⟨by have := (ht.a c hc).n; omega, (hz.sa c hc).s⟩
  ao := ht.at_.1
  av := ht.at_.2
  rs := fun r hr => ⟨(ht.r r hr).1, (ht.r r hr).2⟩
  fl := hz.fl
theorem ML.okr_m {p q : ML} (h : q.m = p.m) (ho : p.okr) : q.okr := by
  obtain ⟨k, x, st, n, ⟨r, a, c⟩, ⟨e, b1, b2, b3, b4, b5, b6⟩⟩ := p
  obtain ⟨k', x', st', n', ⟨r', a', c'⟩, ⟨e', d1, d2, d3, d4, d5, d6⟩⟩ := q
  unfold ML.m at h
  simp only [Msg.mk.injEq] at h
  obtain ⟨rfl, rfl, rfl, rfl, rfl, rfl⟩ := h
  exact ⟨ho.len, ho.nm, ho.cs, ho.sm, ho.wk, ho.k0, ho.k1, ho.x, ho.st, ho.st1, ho.n, ho.o, ho.v, ho.id, ho.wb, ho.wa, ho.ao, ho.av, ho.rs, ho.fl⟩

theorem msgOf_r (e : Ev) : (msgOf e).r = Rl0 := by
  unfold msgOf
  (repeat' split) <;> rfl
theorem msgOf_small {e : Ev} (h : e.small) : (msgOf e).e.small := by
  unfold msgOf
  (repeat' split) <;> first | exact h | exact ⟨Nat.zero_le _, Nat.zero_le _, Nat.zero_le _⟩

set_option maxRecDepth 100000 in set_option maxHeartbeats 16000000 in
theorem wireputs_law (ps : List RR) (a : Option Addr) (cap : Nat) (p q : ML) (w : World) (hk : Kin w) (ht : Tab w) (hl : RL w (.slice a ps.length cap) ps) (hb : ∀ p ∈ ps, p.r.wb) (hlen : ps.length ≤ 9223372036854775807)
    (hp : p.at 6 K.rc w) (hpw : p.r.r.wb) (hpz : p.e.e.sz) (hpt : p.e.e.tw) (hpn : p.nums) (hq : q.at 6 K.rc w) (hqw : q.r.r.wb) (hqz : q.e.e.sz) (hqt : q.e.e.tw) (hqn : q.nums) :
    Calls Tryz.prog 3 #[.slice a ps.length cap, p.agg, q.agg] w fun e w' => e = .returned (.bool true) ∧ Ext w w' := by
  by_cases h60 : 60 < ps.length
  · clear hk ht hl hb hp hpw hpz hpt hpn hq hqw hqz hqt hqn
    have h61 : (60 : Int) < (ps.length : Int) := by omega
    obtain ⟨k, x, st, n, ⟨⟨o, v, nm, id, cols⟩, ca, cc⟩, ⟨⟨kd, ao, av, old, b, aa, rs, fl⟩, ba, bc, aad, ac, ra, rc⟩⟩ := p
    obtain ⟨k2, x2, st2, n2, ⟨⟨o2, v2, nm2, id2, cols2⟩, ca2, cc2⟩, ⟨⟨kd2, ao2, av2, old2, b2, aa2, rs2, fl2⟩, ba2, bc2, aad2, ac2, ra2, rc2⟩⟩ := q
    rw [show (ML.agg (⟨k, x, st, n, ⟨⟨o, v, nm, id, cols⟩, ca, cc⟩, ⟨⟨kd, ao, av, old, b, aa, rs, fl⟩, ba, bc, aad, ac, ra, rc⟩⟩ : ML)) = .agg #[.int .u8 k, .int .u32 x, .int .u64 st, .int .u32 n, .int .u32 o, .int .u32 v, .string nm, .int .u8 id, .slice ca cols.length cc, .int .u8 kd, .int .u32 ao, .int .u32 av, .int .u8 old, .slice ba b.length bc, .slice aad aa.length ac, .slice ra rs.length rc, .int .u8 fl] from rfl, show (ML.agg (⟨k2, x2, st2, n2, ⟨⟨o2, v2, nm2, id2, cols2⟩, ca2, cc2⟩, ⟨⟨kd2, ao2, av2, old2, b2, aa2, rs2, fl2⟩, ba2, bc2, aad2, ac2, ra2, rc2⟩⟩ : ML)) = .agg #[.int .u8 k2, .int .u32 x2, .int .u64 st2, .int .u32 n2, .int .u32 o2, .int .u32 v2, .string nm2, .int .u8 id2, .slice ca2 cols2.length cc2, .int .u8 kd2, .int .u32 ao2, .int .u32 av2, .int .u8 old2, .slice ba2 b2.length bc2, .slice aad2 aa2.length ac2, .slice ra2 rs2.length rc2, .int .u8 fl2] from rfl]
    go_enter Tryz.func3, Tryz.ntmps3
    go_wp2
    go_ret
    exact ⟨rfl, by exact eX⟩
  have HGP := Hid.mk' (fun W (h : Ext w W) => great20_any p ps a cap W (hp.ext h) (hl.ext h) hb (by omega) hpw hpz)
  have HGQ := Hid.mk' (fun W (h : Ext w W) => great20_any q ps a cap W (hq.ext h) (hl.ext h) hb (by omega) hqw hqz)
  have HIN := Hid.mk' (fun W (h : Ext w W) => in16_any ps a cap W (hl.ext h) hb hlen)
  have HRA := Hid.mk' (fun W (h : Ext w W) => rof_any ps a cap W (hl.ext h) hb hlen)
  unfold ROfPost at HRA
  have HON := Hid.mk' (fun W (h : Ext w W) (h0 : ofE (ps.map RR.r) = 0) => own16_any ps a cap W (hl.ext h) hb (by omega) h0)
  unfold Own16Post at HON
  have HAW := Hid.mk' (fun W (h : Ext w W) => awake20_any W (hk.ext h) (ht.ext h))
  have HPO := Hid.mk' (fun h1 h2 => ML.okr_of (p := p) hpw hpz hpt hpn h1 h2)
  have HQO := Hid.mk' (fun h1 h2 => ML.okr_of (p := q) hqw hqz hqt hqn h1 h2)
  have HP := Hid.mk' hp
  have HQ := Hid.mk' hq
  have HKI := Hid.mk' hk
  have HTB := Hid.mk' ht
  have HPT := Hid.mk' hpt
  have HBW := Hid.mk' hb
  have HQC := Hid.mk' hqw.n
  have HPZ := Hid.mk' hpz.kind
  obtain ⟨EA, hEA⟩ : ∃ E, E = ofE (ps.map RR.r) := ⟨_, rfl⟩
  rw [← hEA] at HIN HRA HON
  obtain ⟨D, hD⟩ : ∃ D, D = decide (EA = 0) := ⟨_, rfl⟩
  rw [← hD] at HIN
  have HDD := Hid.mk' hD
  clear hD
  clear hk ht hl hb hp hpw hpz hpt hpn hq hqw hqz hqt hqn hEA
  have hn60 : (ps.length : Int) ≤ 60 := by omega
  have HN60 := Hid.mk' hn60
  have hd60 : decide ((60 : Int) < (ps.length : Int)) = false := decide_eq_false (by omega)
  clear h60 hlen
  obtain ⟨k, x, st, n, ⟨⟨o, v, nm, id, cols⟩, ca, cc⟩, ⟨⟨kd, ao, av, old, b, aa, rs, fl⟩, ba, bc, aad, ac, ra, rc⟩⟩ := p
  obtain ⟨k2, x2, st2, n2, ⟨⟨o2, v2, nm2, id2, cols2⟩, ca2, cc2⟩, ⟨⟨kd2, ao2, av2, old2, b2, aa2, rs2, fl2⟩, ba2, bc2, aad2, ac2, ra2, rc2⟩⟩ := q
  have hap : (ML.agg (⟨k, x, st, n, ⟨⟨o, v, nm, id, cols⟩, ca, cc⟩, ⟨⟨kd, ao, av, old, b, aa, rs, fl⟩, ba, bc, aad, ac, ra, rc⟩⟩ : ML)) = .agg #[.int .u8 k, .int .u32 x, .int .u64 st, .int .u32 n, .int .u32 o, .int .u32 v, .string nm, .int .u8 id, .slice ca cols.length cc, .int .u8 kd, .int .u32 ao, .int .u32 av, .int .u8 old, .slice ba b.length bc, .slice aad aa.length ac, .slice ra rs.length rc, .int .u8 fl] := rfl
  have haq : (ML.agg (⟨k2, x2, st2, n2, ⟨⟨o2, v2, nm2, id2, cols2⟩, ca2, cc2⟩, ⟨⟨kd2, ao2, av2, old2, b2, aa2, rs2, fl2⟩, ba2, bc2, aad2, ac2, ra2, rc2⟩⟩ : ML)) = .agg #[.int .u8 k2, .int .u32 x2, .int .u64 st2, .int .u32 n2, .int .u32 o2, .int .u32 v2, .string nm2, .int .u8 id2, .slice ca2 cols2.length cc2, .int .u8 kd2, .int .u32 ao2, .int .u32 av2, .int .u8 old2, .slice ba2 b2.length bc2, .slice aad2 aa2.length ac2, .slice ra2 rs2.length rc2, .int .u8 fl2] := rfl
  rw [hap] at HGP
  rw [haq] at HGQ
  rw [hap, haq]
  clear hap haq
  dsimp only at HGP HGQ HPO HQO HQC HPZ
  have HX1 := Hid.mk' (show Blk ((w.alloc (.cells #[.int .u8 k, .int .u32 x, .int .u64 st, .int .u32 n, .int .u32 o, .int .u32 v, .string nm, .int .u8 id, .slice ca cols.length cc, .int .u8 kd, .int .u32 ao, .int .u32 av, .int .u8 old, .slice ba b.length bc, .slice aad aa.length ac, .slice ra rs.length rc, .int .u8 fl] 35)).alloc (.cells #[.int .u8 k2, .int .u32 x2, .int .u64 st2, .int .u32 n2, .int .u32 o2, .int .u32 v2, .string nm2, .int .u8 id2, .slice ca2 cols2.length cc2, .int .u8 kd2, .int .u32 ao2, .int .u32 av2, .int .u8 old2, .slice ba2 b2.length bc2, .slice aad2 aa2.length ac2, .slice ra2 rs2.length rc2, .int .u8 fl2] 35)) w.heap.size #[.int .u8 k, .int .u32 x, .int .u64 st, .int .u32 n, .int .u32 o, .int .u32 v, .string nm, .int .u8 id, .slice ca cols.length cc, .int .u8 kd, .int .u32 ao, .int .u32 av, .int .u8 old, .slice ba b.length bc, .slice aad aa.length ac, .slice ra rs.length rc, .int .u8 fl] 35 from (Blk.new _ _ _).alloc _)
  have HY1 := Hid.mk' (show Blk ((w.alloc (.cells #[.int .u8 k, .int .u32 x, .int .u64 st, .int .u32 n, .int .u32 o, .int .u32 v, .string nm, .int .u8 id, .slice ca cols.length cc, .int .u8 kd, .int .u32 ao, .int .u32 av, .int .u8 old, .slice ba b.length bc, .slice aad aa.length ac, .slice ra rs.length rc, .int .u8 fl] 35)).alloc (.cells #[.int .u8 k2, .int .u32 x2, .int .u64 st2, .int .u32 n2, .int .u32 o2, .int .u32 v2, .string nm2, .int .u8 id2, .slice ca2 cols2.length cc2, .int .u8 kd2, .int .u32 ao2, .int .u32 av2, .int .u8 old2, .slice ba2 b2.length bc2, .slice aad2 aa2.length ac2, .slice ra2 rs2.length rc2, .int .u8 fl2] 35)) (w.heap.size + 1) #[.int .u8 k2, .int .u32 x2, .int .u64 st2, .int .u32 n2, .int .u32 o2, .int .u32 v2, .string nm2, .int .u8 id2, .slice ca2 cols2.length cc2, .int .u8 kd2, .int .u32 ao2, .int .u32 av2, .int .u8 old2, .slice ba2 b2.length bc2, .slice aad2 aa2.length ac2, .slice ra2 rs2.length rc2, .int .u8 fl2] 35 from Blk.new' (w := w.alloc (.cells #[.int .u8 k, .int .u32 x, .int .u64 st, .int .u32 n, .int .u32 o, .int .u32 v, .string nm, .int .u8 id, .slice ca cols.length cc, .int .u8 kd, .int .u32 ao, .int .u32 av, .int .u8 old, .slice ba b.length bc, .slice aad aa.length ac, .slice ra rs.length rc, .int .u8 fl] 35)) _ _ (by simp))
  have HE1 := Hid.mk' (show Ext w ((w.alloc (.cells #[.int .u8 k, .int .u32 x, .int .u64 st, .int .u32 n, .int .u32 o, .int .u32 v, .string nm, .int .u8 id, .slice ca cols.length cc, .int .u8 kd, .int .u32 ao, .int .u32 av, .int .u8 old, .slice ba b.length bc, .slice aad aa.length ac, .slice ra rs.length rc, .int .u8 fl] 35)).alloc (.cells #[.int .u8 k2, .int .u32 x2, .int .u64 st2, .int .u32 n2, .int .u32 o2, .int .u32 v2, .string nm2, .int .u8 id2, .slice ca2 cols2.length cc2, .int .u8 kd2, .int .u32 ao2, .int .u32 av2, .int .u8 old2, .slice ba2 b2.length bc2, .slice aad2 aa2.length ac2, .slice ra2 rs2.length rc2, .int .u8 fl2] 35)) from ((Ext.refl w).alloc _).alloc _)
  obtain ⟨w1, hw1⟩ : ∃ W, W = (w.alloc (.cells #[.int .u8 k, .int .u32 x, .int .u64 st, .int .u32 n, .int .u32 o, .int .u32 v, .string nm, .int .u8 id, .slice ca cols.length cc, .int .u8 kd, .int .u32 ao, .int .u32 av, .int .u8 old, .slice ba b.length bc, .slice aad aa.length ac, .slice ra rs.length rc, .int .u8 fl] 35)).alloc (.cells #[.int .u8 k2, .int .u32 x2, .int .u64 st2, .int .u32 n2, .int .u32 o2, .int .u32 v2, .string nm2, .int .u8 id2, .slice ca2 cols2.length cc2, .int .u8 kd2, .int .u32 ao2, .int .u32 av2, .int .u8 old2, .slice ba2 b2.length bc2, .slice aad2 aa2.length ac2, .slice ra2 rs2.length rc2, .int .u8 fl2] 35) := ⟨_, rfl⟩
  rw [← hw1] at HX1 HY1 HE1
  go_enter Tryz.func3, Tryz.ntmps3
  go_upto_region 1 with (fail)
  rw [← hw1]
  clear hw1
  obtain ⟨X, hX⟩ : ∃ X, X = w.heap.size := ⟨_, rfl⟩
  rw [← hX] at HX1 HY1 ⊢
  clear hX
  go_upto_region 3 with (first
    | (refine wpList_load_on 35 (.tmp 4) rfl ?hw _ _ ?e1 (rload17 HX1.out) ?_; (case hw => rfl); (case e1 => go_simp))
    | (refine wpList_load_on 35 (.tmp 5) rfl ?hw _ _ ?e1 (rload17 HY2.out) ?_; (case hw => rfl); (case e1 => go_simp))
    | (go_at_call_of 4 (Value.agg #[.int .u8 k, .int .u32 x, .int .u64 st, .int .u32 n, .int .u32 o, .int .u32 v, .string nm, .int .u8 id, .slice ca cols.length cc, .int .u8 kd, .int .u32 ao, .int .u32 av, .int .u8 old, .slice ba b.length bc, .slice aad aa.length ac, .slice ra rs.length rc, .int .u8 fl]); refine (HGP.out _ HE1.out).mono ?_; rintro e wa ⟨g, rfl, hg, hba⟩; have HGA := Hid.mk' hg; have HE2 := Hid.mk' (HE1.out.trans hba); have HY2 := Hid.mk' (HY1.out.ext hba); have HX2 := Hid.mk' (HX1.out.ext hba); clear hg hba; cases g)
    | (go_at_call_of 4 (Value.agg #[.int .u8 k2, .int .u32 x2, .int .u64 st2, .int .u32 n2, .int .u32 o2, .int .u32 v2, .string nm2, .int .u8 id2, .slice ca2 cols2.length cc2, .int .u8 kd2, .int .u32 ao2, .int .u32 av2, .int .u8 old2, .slice ba2 b2.length bc2, .slice aad2 aa2.length ac2, .slice ra2 rs2.length rc2, .int .u8 fl2]); refine (HGQ.out _ HE2.out).mono ?_; rintro e wb ⟨g, rfl, hg, hbb⟩; have HGB := Hid.mk' hg; have HE3 := Hid.mk' (HE2.out.trans hbb); have HX3 := Hid.mk' (HX2.out.ext hbb); have HY3 := Hid.mk' (HY2.out.ext hbb); clear hg hbb; cases g)
    | (go_at_call 5; refine (HIN.out _ HE3.out).mono ?_; rintro e wi ⟨rfl, hbi⟩; have HE4 := Hid.mk' (HE3.out.trans hbi); have HX4 := Hid.mk' (HX3.out.ext hbi); have HY4 := Hid.mk' (HY3.out.ext hbi); clear hbi; cases D))
  all_goals try (go_ret; first | exact ⟨rfl, HE4.out⟩ | exact ⟨rfl, HE3.out⟩ | exact ⟨rfl, HE2.out⟩)
  have hEA : EA = 0 := of_decide_eq_true HDD.out.symm
  subst hEA
  obtain ⟨hP1, hP2, -⟩ := HGA.out (by first | exact rfl | exact trivial)
  obtain ⟨hQ1, hQ2, -⟩ := HGB.out (by first | exact rfl | exact trivial)
  have HPK := Hid.mk' (HPO.out hP1 hP2)
  have HQK := Hid.mk' (HQO.out hQ1 hQ2)
  clear hP1 hP2 hQ1 hQ2 HPO HQO HGP HGQ HIN HGA HGB HDD HX1 HX2 HX3 HY1 HY2 HY3 HE2 HE3
  go_upto_region 6 with (go_at_call 6; refine (HON.out _ HE4.out (by first | exact rfl | exact trivial)).mono ?_; rintro e w5 ⟨G, cv, qc, rfl, hGz, hca, hqr, hb5⟩; have HCA := Hid.mk' hca; have HQR := Hid.mk' hqr; have HE5 := Hid.mk' (HE4.out.trans hb5); have HX5 := Hid.mk' (HX4.out.ext hb5); have HY5 := Hid.mk' (HY4.out.ext hb5); clear hGz hca hqr hb5)
  clear HON HX4 HY4 HE4
  go_upto_region 7 with (go_at_call 7; refine (HRA.out _ HE5.out).mono ?_; rintro e w6 ⟨aw, cw, nU, rfl, h1, -, hb6⟩; have HUW := Hid.mk' (h1 (by first | exact rfl | exact trivial)); have HCA6 := Hid.mk' (HCA.out.ext hb6); have HE6 := Hid.mk' (HE5.out.trans hb6); have HX6 := Hid.mk' (HX5.out.ext hb6); have HY6 := Hid.mk' (HY5.out.ext hb6); clear h1 hb6)
  clear HRA HX5 HY5 HE5 HCA
  obtain ⟨hnU, hrl⟩ := HUW.out
  obtain ⟨U, hU⟩ : ∃ U, U = upP ps ps.length := ⟨_, rfl⟩
  rw [← hU] at hnU hrl
  subst hnU
  have hUr : U.map RR.r = qc.map RR.r := by rw [hU, upP_r, HQR.out]
  have hUb : ∀ p ∈ U, p.r.wb := fun p hp => HBW.out p (upP_mem (by rw [← hU]; exact hp))
  have HRC : Hid (RCat U) := Hid.mk' ⟨by rw [hUr]; exact HCA6.out.ok, hUb⟩
  have HRL := Hid.mk' hrl
  obtain ⟨LC, hLC⟩ : ∃ L, L = qc.map RR.r := ⟨_, rfl⟩
  rw [← hLC] at hUr
  have HLC := Hid.mk' hLC
  have HUR := Hid.mk' hUr
  clear hU hrl hUr hUb hLC HUW HQR HBW
  obtain ⟨E, hE⟩ : ∃ E, E = msgE (ML.m (⟨k, x, st, n, ⟨⟨o, v, nm, id, cols⟩, ca, cc⟩, ⟨⟨kd, ao, av, old, b, aa, rs, fl⟩, ba, bc, aad, ac, ra, rc⟩⟩ : ML)) LC := ⟨_, rfl⟩
  obtain ⟨MW, hMW⟩ : ∃ M, M = msgW (ML.m (⟨k, x, st, n, ⟨⟨o, v, nm, id, cols⟩, ca, cc⟩, ⟨⟨kd, ao, av, old, b, aa, rs, fl⟩, ba, bc, aad, ac, ra, rc⟩⟩ : ML)) LC := ⟨_, rfl⟩
  obtain ⟨B, hB⟩ : ∃ B, B = msgB (ML.m (⟨k, x, st, n, ⟨⟨o, v, nm, id, cols⟩, ca, cc⟩, ⟨⟨kd, ao, av, old, b, aa, rs, fl⟩, ba, bc, aad, ac, ra, rc⟩⟩ : ML)) (ML.m (⟨k2, x2, st2, n2, ⟨⟨o2, v2, nm2, id2, cols2⟩, ca2, cc2⟩, ⟨⟨kd2, ao2, av2, old2, b2, aa2, rs2, fl2⟩, ba2, bc2, aad2, ac2, ra2, rc2⟩⟩ : ML)) := ⟨_, rfl⟩
  have HEE := Hid.mk' hE
  have HMW := Hid.mk' hMW
  have HBB := Hid.mk' hB
  clear hE hMW hB
  have hLP : (ML.agg (⟨k, x, st, n, ⟨⟨o, v, nm, id, cols⟩, ca, cc⟩, ⟨⟨kd, ao, av, old, b, aa, rs, fl⟩, ba, bc, aad, ac, ra, rc⟩⟩ : ML)) = .agg #[.int .u8 k, .int .u32 x, .int .u64 st, .int .u32 n, .int .u32 o, .int .u32 v, .string nm, .int .u8 id, .slice ca cols.length cc, .int .u8 kd, .int .u32 ao, .int .u32 av, .int .u8 old, .slice ba b.length bc, .slice aad aa.length ac, .slice ra rs.length rc, .int .u8 fl] := rfl
  have hLQ : (ML.agg (⟨k2, x2, st2, n2, ⟨⟨o2, v2, nm2, id2, cols2⟩, ca2, cc2⟩, ⟨⟨kd2, ao2, av2, old2, b2, aa2, rs2, fl2⟩, ba2, bc2, aad2, ac2, ra2, rc2⟩⟩ : ML)) = .agg #[.int .u8 k2, .int .u32 x2, .int .u64 st2, .int .u32 n2, .int .u32 o2, .int .u32 v2, .string nm2, .int .u8 id2, .slice ca2 cols2.length cc2, .int .u8 kd2, .int .u32 ao2, .int .u32 av2, .int .u8 old2, .slice ba2 b2.length bc2, .slice aad2 aa2.length ac2, .slice ra2 rs2.length rc2, .int .u8 fl2] := rfl
  have HOP : Hid (∀ W, Ext w W → Calls Tryz.prog 9 #[.agg #[.int .u8 k, .int .u32 x, .int .u64 st, .int .u32 n, .int .u32 o, .int .u32 v, .string nm, .int .u8 id, .slice ca cols.length cc, .int .u8 kd, .int .u32 ao, .int .u32 av, .int .u8 old, .slice ba b.length bc, .slice aad aa.length ac, .slice ra rs.length rc, .int .u8 fl]] W fun e w' => ∃ y : ML, e = .returned y.agg ∧ y.m = ML.m (⟨k, x, st, n, ⟨⟨o, v, nm, id, cols⟩, ca, cc⟩, ⟨⟨kd, ao, av, old, b, aa, rs, fl⟩, ba, bc, aad, ac, ra, rc⟩⟩ : ML) ∧ y.at 5 K.pc w' ∧ y.r.r.cols.length ≤ y.r.c ∧ Ext W w') := Hid.mk' (fun W h => lown20_any (⟨k, x, st, n, ⟨⟨o, v, nm, id, cols⟩, ca, cc⟩, ⟨⟨kd, ao, av, old, b, aa, rs, fl⟩, ba, bc, aad, ac, ra, rc⟩⟩ : ML) W (HP.out.ext h) HPK.out.len HPK.out.sm)
  have HOQ : Hid (∀ W, Ext w W → Calls Tryz.prog 9 #[.agg #[.int .u8 k2, .int .u32 x2, .int .u64 st2, .int .u32 n2, .int .u32 o2, .int .u32 v2, .string nm2, .int .u8 id2, .slice ca2 cols2.length cc2, .int .u8 kd2, .int .u32 ao2, .int .u32 av2, .int .u8 old2, .slice ba2 b2.length bc2, .slice aad2 aa2.length ac2, .slice ra2 rs2.length rc2, .int .u8 fl2]] W fun e w' => ∃ y : ML, e = .returned y.agg ∧ y.m = ML.m (⟨k2, x2, st2, n2, ⟨⟨o2, v2, nm2, id2, cols2⟩, ca2, cc2⟩, ⟨⟨kd2, ao2, av2, old2, b2, aa2, rs2, fl2⟩, ba2, bc2, aad2, ac2, ra2, rc2⟩⟩ : ML) ∧ y.at 5 K.pc w' ∧ y.r.r.cols.length ≤ y.r.c ∧ Ext W w') := Hid.mk' (fun W h => lown20_any (⟨k2, x2, st2, n2, ⟨⟨o2, v2, nm2, id2, cols2⟩, ca2, cc2⟩, ⟨⟨kd2, ao2, av2, old2, b2, aa2, rs2, fl2⟩, ba2, bc2, aad2, ac2, ra2, rc2⟩⟩ : ML) W (HQ.out.ext h) HQK.out.len HQK.out.sm)
  have HPU : Hid (∀ y W, Ext w6 W → y.at 5 K.pc W → y.m = ML.m (⟨k, x, st, n, ⟨⟨o, v, nm, id, cols⟩, ca, cc⟩, ⟨⟨kd, ao, av, old, b, aa, rs, fl⟩, ba, bc, aad, ac, ra, rc⟩⟩ : ML) → y.r.r.cols.length ≤ y.r.c → Calls Tryz.prog 8 #[.pointer (some ⟨G, 0, none⟩), ML.agg y] W fun e w' => ∃ v, e = .returned (.tuple #[v, .int .i64 E]) ∧ OB w' W.heap.size v MW ∧ Ext W w') := Hid.mk' (fun y W h hy hm hc => by
    have h1 := put_any y G G cv qc W hy ⟨ML.okr_m hm HPK.out, hc⟩ (HKI.out.ext (HE6.out.trans h)) (HCA6.out.ext h) (HTB.out.ext (HE6.out.trans h))
    rw [hm, ← HLC.out, ← HEE.out, ← HMW.out] at h1
    exact h1)
  have HRU : Hid (∀ W, Ext w6 W → Calls Tryz.prog 10 #[.slice aw U.length cw, .agg #[.int .u8 k, .int .u32 x, .int .u64 st, .int .u32 n, .int .u32 o, .int .u32 v, .string nm, .int .u8 id, .slice ca cols.length cc, .int .u8 kd, .int .u32 ao, .int .u32 av, .int .u8 old, .slice ba b.length bc, .slice aad aa.length ac, .slice ra rs.length rc, .int .u8 fl]] W fun e w' => ∃ v, e = .returned (.tuple #[v, .int .i64 E]) ∧ Sl w' v 1 ((strL (strOfNums MW)).map bcell) ∧ (∀ len cap, v = .slice none len cap → v = .slice none 0 0) ∧ Ext W w') := Hid.mk' (fun W h => by
    have h1 := rput20_any (⟨k, x, st, n, ⟨⟨o, v, nm, id, cols⟩, ca, cc⟩, ⟨⟨kd, ao, av, old, b, aa, rs, fl⟩, ba, bc, aad, ac, ra, rc⟩⟩ : ML) U aw cw W (HP.out.ext (HE6.out.trans h)) HPK.out (HRL.out.ext h) HRC.out HPT.out.b HPT.out.a
    rw [HUR.out, ← HEE.out, ← HMW.out] at h1
    exact h1)
  have HRI : Hid (∀ y W, Ext w6 W → y.at 5 K.pc W → y.m = ML.m (⟨k, x, st, n, ⟨⟨o, v, nm, id, cols⟩, ca, cc⟩, ⟨⟨kd, ao, av, old, b, aa, rs, fl⟩, ba, bc, aad, ac, ra, rc⟩⟩ : ML) → y.r.r.cols.length ≤ y.r.c → Calls Tryz.prog 11 #[ML.agg y, .pointer (some ⟨G, 0, none⟩)] W fun e w' => e = .returned (.int .i64 E) ∧ Ext W w') := Hid.mk' (fun y W h hy hm hc => by
    have ho : y.ok := ⟨ML.okr_m hm HPK.out, hc⟩
    have h1 := mright_any y G G cv qc W hy ho.len ho.cap ho.nm ho.cs ho.sm ho.wk ho.k0 ho.k1 (HKI.out.ext (HE6.out.trans h)) (HCA6.out.ext h)
    rw [hm, ← HLC.out, ← HEE.out] at h1
    exact h1)
  have HAK : Hid (∀ y z W, y.at 5 K.pc W → z.at 5 K.pc W → y.m = ML.m (⟨k, x, st, n, ⟨⟨o, v, nm, id, cols⟩, ca, cc⟩, ⟨⟨kd, ao, av, old, b, aa, rs, fl⟩, ba, bc, aad, ac, ra, rc⟩⟩ : ML) → z.m = ML.m (⟨k2, x2, st2, n2, ⟨⟨o2, v2, nm2, id2, cols2⟩, ca2, cc2⟩, ⟨⟨kd2, ao2, av2, old2, b2, aa2, rs2, fl2⟩, ba2, bc2, aad2, ac2, ra2, rc2⟩⟩ : ML) → Calls Tryz.prog 12 #[ML.agg y, ML.agg z] W fun e w' => e = .returned (.bool B) ∧ Ext W w') := Hid.mk' (fun y z W hy hz hm hn => by
    have h1 := malike_any y z W hy hz (ML.okr_m hm HPK.out).len (ML.okr_m hm HPK.out).sm (ML.okr_m hn HQK.out).sm
    rw [hm, hn, ← HBB.out] at h1
    exact h1)
  have HSM : Hid (∀ W, Ext w W → Calls Tryz.prog 13 #[.agg #[.int .u8 k, .int .u32 x, .int .u64 st, .int .u32 n, .int .u32 o, .int .u32 v, .string nm, .int .u8 id, .slice ca cols.length cc, .int .u8 kd, .int .u32 ao, .int .u32 av, .int .u8 old, .slice ba b.length bc, .slice aad aa.length ac, .slice ra rs.length rc, .int .u8 fl], .agg #[.int .u8 k2, .int .u32 x2, .int .u64 st2, .int .u32 n2, .int .u32 o2, .int .u32 v2, .string nm2, .int .u8 id2, .slice ca2 cols2.length cc2, .int .u8 kd2, .int .u32 ao2, .int .u32 av2, .int .u8 old2, .slice ba2 b2.length bc2, .slice aad2 aa2.length ac2, .slice ra2 rs2.length rc2, .int .u8 fl2]] W fun e w' => e = .returned (.bool B) ∧ Ext W w') := Hid.mk' (fun W h => by
    have h1 := msame_any (⟨k, x, st, n, ⟨⟨o, v, nm, id, cols⟩, ca, cc⟩, ⟨⟨kd, ao, av, old, b, aa, rs, fl⟩, ba, bc, aad, ac, ra, rc⟩⟩ : ML) (⟨k2, x2, st2, n2, ⟨⟨o2, v2, nm2, id2, cols2⟩, ca2, cc2⟩, ⟨⟨kd2, ao2, av2, old2, b2, aa2, rs2, fl2⟩, ba2, bc2, aad2, ac2, ra2, rc2⟩⟩ : ML) W (HP.out.ext h) (HQ.out.ext h) HPK.out.len (by have := HQC.out; show cols2.length ≤ _; omega) HPK.out.sm HQK.out.sm
    rw [← HBB.out, hLP, hLQ] at h1
    exact h1)
  have HEO : Hid (∀ W, Ext w W → Calls Tryz.prog 16 #[.agg #[.int .u8 kd, .int .u32 ao, .int .u32 av, .int .u8 old, .slice ba b.length bc, .slice aad aa.length ac, .slice ra rs.length rc, .int .u8 fl]] W fun e w' => ∃ y : EL, e = .returned y.agg ∧ y.e = (⟨kd, ao, av, old, b, aa, rs, fl⟩ : Ev) ∧ y.at 5 K.pc w' ∧ Ext W w') := Hid.mk' (fun W h => (eown_el (ML.e (⟨k, x, st, n, ⟨⟨o, v, nm, id, cols⟩, ca, cc⟩, ⟨⟨kd, ao, av, old, b, aa, rs, fl⟩, ba, bc, aad, ac, ra, rc⟩⟩ : ML)) W (HP.out.2.ext h) HPK.out.sm.b HPK.out.sm.a HPK.out.sm.r).mono (fun e w' ⟨y, h1, h2, h3, _, h5⟩ => ⟨y, h1, h2, h3, h5⟩))
  have HMO : Hid (∀ (y : EL) W, Ext w W → y.at 5 K.pc W → y.e = (⟨kd, ao, av, old, b, aa, rs, fl⟩ : Ev) → Calls Tryz.prog 15 #[y.agg] W fun e w' => ∃ z : ML, e = .returned z.agg ∧ z.m = msgOf (⟨kd, ao, av, old, b, aa, rs, fl⟩ : Ev) ∧ z.at 5 K.pc w' ∧ Ext W w') := Hid.mk' (fun y W h hy he => by
    have h1 := mof_any y W hy (by rw [he]; exact HPK.out.sm) (HKI.out.ext h)
    rw [he] at h1
    exact h1)
  have HBA : Hid (∀ (z : ML) W, z.at 5 K.pc W → z.m = msgOf (⟨kd, ao, av, old, b, aa, rs, fl⟩ : Ev) → Calls Tryz.prog 14 #[z.agg] W fun e w' => ∃ y : ML, e = .returned y.agg ∧ y.m = msgOf (⟨kd, ao, av, old, b, aa, rs, fl⟩ : Ev) ∧ y.at 6 K.rc w' ∧ Ext W w') := Hid.mk' (fun z W hz hm => by
    have h1 := lback20_any z W hz (by rw [show z.r.r = (msgOf (⟨kd, ao, av, old, b, aa, rs, fl⟩ : Ev)).r from congrArg Msg.r hm, msgOf_r]; exact Nat.zero_le _) (by rw [show z.e.e = (msgOf (⟨kd, ao, av, old, b, aa, rs, fl⟩ : Ev)).e from congrArg Msg.e hm]; exact msgOf_small HPK.out.sm)
    rw [hm] at h1
    exact h1)
  have HRF : Hid (∀ W, Calls Tryz.prog 17 #[.agg #[.int .u8 kd, .int .u32 ao, .int .u32 av, .int .u8 old, .slice ba b.length bc, .slice aad aa.length ac, .slice ra rs.length rc, .int .u8 fl]] W fun e w' => e = .returned (mlOf (ML.e (⟨k, x, st, n, ⟨⟨o, v, nm, id, cols⟩, ca, cc⟩, ⟨⟨kd, ao, av, old, b, aa, rs, fl⟩, ba, bc, aad, ac, ra, rc⟩⟩ : ML))).agg ∧ Ext W w') := Hid.mk' (fun W => rof20_any (ML.e (⟨k, x, st, n, ⟨⟨o, v, nm, id, cols⟩, ca, cc⟩, ⟨⟨kd, ao, av, old, b, aa, rs, fl⟩, ba, bc, aad, ac, ra, rc⟩⟩ : ML)) W HPZ.out.1 HPZ.out.2)
  have HSS : Hid (∀ (y : ML) W, Ext w W → y.at 6 K.rc W → y.m = msgOf (⟨kd, ao, av, old, b, aa, rs, fl⟩ : Ev) → Calls Tryz.prog 13 #[y.agg, (mlOf (ML.e (⟨k, x, st, n, ⟨⟨o, v, nm, id, cols⟩, ca, cc⟩, ⟨⟨kd, ao, av, old, b, aa, rs, fl⟩, ba, bc, aad, ac, ra, rc⟩⟩ : ML))).agg] W fun e w' => e = .returned (.bool true) ∧ Ext W w') := Hid.mk' (fun y W h hy hm => by
    have hm2 := mlOf_m (ML.e (⟨k, x, st, n, ⟨⟨o, v, nm, id, cols⟩, ca, cc⟩, ⟨⟨kd, ao, av, old, b, aa, rs, fl⟩, ba, bc, aad, ac, ra, rc⟩⟩ : ML))
    have h1 := msame_any y (mlOf (ML.e (⟨k, x, st, n, ⟨⟨o, v, nm, id, cols⟩, ca, cc⟩, ⟨⟨kd, ao, av, old, b, aa, rs, fl⟩, ba, bc, aad, ac, ra, rc⟩⟩ : ML))) W hy (mlOf_at (HP.out.2.ext h)) (by rw [show y.r.r = (msgOf (⟨kd, ao, av, old, b, aa, rs, fl⟩ : Ev)).r from congrArg Msg.r hm, msgOf_r]; exact Nat.zero_le _) (by rw [show (mlOf (ML.e (⟨k, x, st, n, ⟨⟨o, v, nm, id, cols⟩, ca, cc⟩, ⟨⟨kd, ao, av, old, b, aa, rs, fl⟩, ba, bc, aad, ac, ra, rc⟩⟩ : ML))).r.r = (msgOf (⟨kd, ao, av, old, b, aa, rs, fl⟩ : Ev)).r from congrArg Msg.r hm2, msgOf_r]; exact Nat.zero_le _) (by rw [show y.e.e = (msgOf (⟨kd, ao, av, old, b, aa, rs, fl⟩ : Ev)).e from congrArg Msg.e hm]; exact msgOf_small HPK.out.sm) (by rw [show (mlOf (ML.e (⟨k, x, st, n, ⟨⟨o, v, nm, id, cols⟩, ca, cc⟩, ⟨⟨kd, ao, av, old, b, aa, rs, fl⟩, ba, bc, aad, ac, ra, rc⟩⟩ : ML))).e.e = (msgOf (⟨kd, ao, av, old, b, aa, rs, fl⟩ : Ev)).e from congrArg Msg.e hm2]; exact msgOf_small HPK.out.sm)
    rw [hm, hm2, msgB_true.2 rfl] at h1
    exact h1)
  clear hLP hLQ HEE HMW HBB HLC HUR HRC HRL HPT HPK HQK HKI HTB HQC HPZ HP HQ HCA6
  generalize (mlOf (ML.e (⟨k, x, st, n, ⟨⟨o, v, nm, id, cols⟩, ca, cc⟩, ⟨⟨kd, ao, av, old, b, aa, rs, fl⟩, ba, bc, aad, ac, ra, rc⟩⟩ : ML))).agg = RFV at HRF HSS
  generalize (msgOf (⟨kd, ao, av, old, b, aa, rs, fl⟩ : Ev)) = MO at HMO HBA HSS
  generalize ML.m (⟨k, x, st, n, ⟨⟨o, v, nm, id, cols⟩, ca, cc⟩, ⟨⟨kd, ao, av, old, b, aa, rs, fl⟩, ba, bc, aad, ac, ra, rc⟩⟩ : ML) = MP at HOP HPU HRI HAK
  generalize ML.m (⟨k2, x2, st2, n2, ⟨⟨o2, v2, nm2, id2, cols2⟩, ca2, cc2⟩, ⟨⟨kd2, ao2, av2, old2, b2, aa2, rs2, fl2⟩, ba2, bc2, aad2, ac2, ra2, rc2⟩⟩ : ML) = MQ at HOQ HAK
  go_upto_region 8 with (first
    | (refine wpList_load_to rfl 35 (.tmp 4) rfl _ _ ?e1 (rload17 HX6.out) ?_; (case e1 => go_simp))
    | (go_at_call 9; refine (HOP.out _ HE6.out).mono ?_; rintro e w7 ⟨y7, rfl, hm7, hat7, hc7, hb7⟩; have HB7 := Hid.mk' hb7; have HM7 := Hid.mk' hm7; have HA7 := Hid.mk' hat7; have HC7 := Hid.mk' hc7; clear hm7 hat7 hc7 hb7)
    | (go_at_call 8; refine (HPU.out y7 _ HB7.out HA7.out HM7.out HC7.out).mono ?_; rintro e w8 ⟨vb, rfl, hob, hb8⟩; have HOB := Hid.mk' hob; have HB8 := Hid.mk' (HB7.out.trans hb8); have HX8 := Hid.mk' (HX6.out.ext HB8.out); have HY8 := Hid.mk' (HY6.out.ext HB8.out); clear hob hb8))
  clear HB7 HM7 HA7 HC7 HPU
  go_cut [13, 14] (fun c e wx => e = .int .i64 E ∧ Hid (Sl wx c 1 ((strL (strOfNums MW)).map bcell)) ∧ Hid (Ext w8 wx))
  case first =>
    go_wp2_with (first
      | (refine wpList_load_to rfl 35 (.tmp 4) rfl _ _ ?e1 (rload17 HX8.out) ?_; (case e1 => go_simp))
      | (go_at_call 10; refine (HRU.out _ HB8.out).mono ?_; rintro e w9 ⟨va, rfl, hsa, -, hb9⟩; have HSA := Hid.mk' hsa; have HB9 := Hid.mk' hb9; clear hsa hb9))
    go_meet
    case rel => exact ⟨rfl, HSA, HB9⟩
  case rest =>
  obtain ⟨rfl, HSA, HB9x⟩ := hcut
  obtain ⟨w9, hw9⟩ : ∃ W, W = wc := ⟨_, rfl⟩
  rw [← hw9] at HSA HB9x ⊢
  clear hw9
  have HX9 := Hid.mk' (HX8.out.ext HB9x.out)
  have HY9 := Hid.mk' (HY8.out.ext HB9x.out)
  have HB9 := Hid.mk' (HB8.out.trans HB9x.out)
  have HOB9 := Hid.mk' (HOB.out.ext HB9x.out)
  go_upto_region 9 with (fail)
  generalize Value.agg #[.int .u8 k, .int .u32 x, .int .u64 st, .int .u32 n, .int .u32 o, .int .u32 v, .string nm, .int .u8 id, .slice ca cols.length cc, .int .u8 kd, .int .u32 ao, .int .u32 av, .int .u8 old, .slice ba b.length bc, .slice aad aa.length ac, .slice ra rs.length rc, .int .u8 fl] = P1
  generalize Value.agg #[.int .u8 k2, .int .u32 x2, .int .u64 st2, .int .u32 n2, .int .u32 o2, .int .u32 v2, .string nm2, .int .u8 id2, .slice ca2 cols2.length cc2, .int .u8 kd2, .int .u32 ao2, .int .u32 av2, .int .u8 old2, .slice ba2 b2.length bc2, .slice aad2 aa2.length ac2, .slice ra2 rs2.length rc2, .int .u8 fl2] = P2
  obtain ⟨S, hS⟩ : ∃ S, S = strOfNums MW := ⟨_, rfl⟩
  have hcv1 : ∀ W, Ext w9 W → (convert 42 9 vb).run Tryz.prog W = .ok (.string S) W := fun W h => by rw [hS]; exact conv_Sl (HOB9.out.sl.ext h)
  have hcv2 : ∀ W, Ext w9 W → (convert 42 9 u13).run Tryz.prog W = .ok (.string S) W := fun W h => by
    have h1 := conv_Sl (HSA.out.ext h)
    rw [strO_strL] at h1
    rw [hS]; exact h1
  clear hS
  have hEE : (E != E) = false := by simp
  have HBE := Hid.mk' (show (B != B) = false by simp)
  have HE9 := Hid.mk' (HE6.out.trans HB9.out)
  clear HOB HSA HB9x HX8 HY8 HX6 HY6 HB8 HRU HOB9
  have hA0 : Hid ((fun w' => Ext (w9) w' ∧ (∀ b o, b < (w9).heap.size → w'.cell? ⟨b, o, none⟩ = (w9).cell? ⟨b, o, none⟩) ∧ (∀ b o, b < (w9).heap.size → w'.frozen? ⟨b, o, none⟩ = (w9).frozen? ⟨b, o, none⟩)) w9.drew) := held_of (by exact eX)
  refine wp_region_head 28 (fun w' => Ext (w9) w' ∧ (∀ b o, b < (w9).heap.size → w'.cell? ⟨b, o, none⟩ = (w9).cell? ⟨b, o, none⟩) ∧ (∀ b o, b < (w9).heap.size → w'.frozen? ⟨b, o, none⟩ = (w9).frozen? ⟨b, o, none⟩)) (by kernel_rfl) (by decide) ?_
  refine HG.on 0 56 hA0.out ?_
  try simp only [Act.put, List.setIfInBounds_toArray, List.set_cons_zero, List.set_cons_succ]
  (refine wpHd_take (i := 1) (v := ?_) rfl (by kernel_rfl) (by kernel_rfl) (by kernel_rfl) (fun _ _ _ h => h) (Or.inl ⟨by rfl, ?_⟩) hA0.out ?_; rotate_left 1; · (intro w' hS'; have hq := hcv1 w' hS'.1; go_simp; try with_reducible rfl))
  refine HG.on 2 58 hA0.out ?_
  try simp only [Act.put, List.setIfInBounds_toArray]
  (refine wpHd_take (i := 3) (v := ?_) rfl (by kernel_rfl) (by kernel_rfl) (by kernel_rfl) (fun _ _ _ h => h) (Or.inl ⟨by rfl, ?_⟩) hA0.out ?_; rotate_left 1; · (intro w' hS'; have hq := hcv2 w' hS'.1; go_simp; try with_reducible rfl))
  refine onk 4 60 hA0.out ?_
  try simp only [Act.put]
  refine onk 5 61 hA0.out ?_
  try simp only [Act.put]
  refine onk 6 62 hA0.out ?_
  try simp only [Act.put]
  refine onk 7 63 hA0.out ?_
  try simp only [Act.put]
  refine onk 8 64 hA0.out ?_
  try simp only [Act.put]
  refine onk 9 65 hA0.out ?_
  try simp only [Act.put]
  refine onk 10 66 hA0.out ?_
  try simp only [Act.put]
  (refine wpHd_take (i := 11) (v := ?_) rfl (by kernel_rfl) (by kernel_rfl) (by kernel_rfl) (fun _ _ _ h => h) (Or.inl ⟨by kernel_rfl, ?_⟩) hA0.out ?_; rotate_left 1; · (intro w' hS'; refine (exec_load 35 (.tmp 4) rfl (p := .pointer (some ⟨X, 0, none⟩)) (by go_simp) (rload17 (HX9.out.ext hS'.1))).trans ?_; with_reducible rfl))
  refine onk 13 69 hA0.out ?_
  try simp only [Act.put]
  refine onk 15 71 hA0.out ?_
  try simp only [Act.put]
  refine wpHd_oneG (i := 12) rfl (by kernel_rfl) (by kernel_rfl) (fun KK hK => ?_)
  go_simp
  refine (HOP.out _ (HE9.out.trans (by exact eX))).mono ?_
  rintro e w10 ⟨y1, rfl, hm1, hat1, hc1, hb10⟩
  have HB10 := Hid.mk' (show Ext w9 w10 by exact eX)
  have HY1 := Hid.mk' hat1
  have HM1 := Hid.mk' hm1
  have HC1 := Hid.mk' hc1
  refine hK.out _ _ (held_of HB10.out) (fun hA => ?_)
  clear hK KK hA hA0 hb10 hm1 hat1 hc1
  have hA0 : Hid ((fun w' => Ext (w9) w' ∧ (∀ b o, b < (w9).heap.size → w'.cell? ⟨b, o, none⟩ = (w9).cell? ⟨b, o, none⟩) ∧ (∀ b o, b < (w9).heap.size → w'.frozen? ⟨b, o, none⟩ = (w9).frozen? ⟨b, o, none⟩)) w10) := held_of HB10.out
  refine wpHd_oneG (i := 14) rfl (by kernel_rfl) (by kernel_rfl) (fun KK hK => ?_)
  go_simp
  refine (HRI.out y1 _ (HB9.out.trans HB10.out) HY1.out HM1.out HC1.out).mono ?_
  rintro e w11 ⟨rfl, hb11⟩
  have HB11 := Hid.mk' (show Ext w9 w11 from HB10.out.trans hb11)
  refine hK.out _ _ (held_of HB11.out) (fun hA => ?_)
  clear hK KK hA hA0 hb11 HY1 HM1 HC1
  have hA0 : Hid ((fun w' => Ext (w9) w' ∧ (∀ b o, b < (w9).heap.size → w'.cell? ⟨b, o, none⟩ = (w9).cell? ⟨b, o, none⟩) ∧ (∀ b o, b < (w9).heap.size → w'.frozen? ⟨b, o, none⟩ = (w9).frozen? ⟨b, o, none⟩)) w11) := held_of HB11.out
  refine onk 16 72 hA0.out ?_
  try simp only [Act.put, List.setIfInBounds_toArray, List.set_cons_zero, List.set_cons_succ]
  refine onk 17 73 hA0.out ?_
  try simp only [Act.put, List.setIfInBounds_toArray, List.set_cons_zero, List.set_cons_succ]
  refine onk 18 74 hA0.out ?_
  try simp only [Act.put, List.setIfInBounds_toArray, List.set_cons_zero, List.set_cons_succ]
  (refine wpHd_take (i := 19) (v := ?_) rfl (by kernel_rfl) (by kernel_rfl) (by kernel_rfl) (fun _ _ _ h => h) (Or.inl ⟨by kernel_rfl, ?_⟩) hA0.out ?_; rotate_left 1; · (intro w' hS'; refine (exec_load 35 (.tmp 4) rfl (p := .pointer (some ⟨X, 0, none⟩)) (by go_simp) (rload17 (HX9.out.ext hS'.1))).trans ?_; with_reducible rfl))
  (refine wpHd_take (i := 21) (v := ?_) rfl (by kernel_rfl) (by kernel_rfl) (by kernel_rfl) (fun _ _ _ h => h) (Or.inl ⟨by kernel_rfl, ?_⟩) hA0.out ?_; rotate_left 1; · (intro w' hS'; refine (exec_load 35 (.tmp 5) rfl (p := .pointer (some ⟨X + 1, 0, none⟩)) (by go_simp) (rload17 (HY9.out.ext hS'.1))).trans ?_; with_reducible rfl))
  (refine wpHd_take (i := 24) (v := ?_) rfl (by kernel_rfl) (by kernel_rfl) (by kernel_rfl) (fun _ _ _ h => h) (Or.inl ⟨by kernel_rfl, ?_⟩) hA0.out ?_; rotate_left 1; · (intro w' hS'; refine (exec_load 35 (.tmp 4) rfl (p := .pointer (some ⟨X, 0, none⟩)) (by go_simp) (rload17 (HX9.out.ext hS'.1))).trans ?_; with_reducible rfl))
  (refine wpHd_take (i := 25) (v := ?_) rfl (by kernel_rfl) (by kernel_rfl) (by kernel_rfl) (fun _ _ _ h => h) (Or.inl ⟨by kernel_rfl, ?_⟩) hA0.out ?_; rotate_left 1; · (intro w' hS'; refine (exec_load 35 (.tmp 5) rfl (p := .pointer (some ⟨X + 1, 0, none⟩)) (by go_simp) (rload17 (HY9.out.ext hS'.1))).trans ?_; with_reducible rfl))
  refine wpHd_oneG (i := 20) rfl (by kernel_rfl) (by kernel_rfl) (fun KK hK => ?_)
  go_simp
  refine (HOP.out _ (HE9.out.trans HB11.out)).mono ?_
  rintro e w12 ⟨y2, rfl, hm2, hat2, hc2, hb12⟩
  have HB12 := Hid.mk' (show Ext w9 w12 from HB11.out.trans hb12)
  have HY2 := Hid.mk' hat2
  have HM2 := Hid.mk' hm2
  refine hK.out _ _ (held_of HB12.out) (fun hA => ?_)
  clear hK KK hA hA0 hb12 hm2 hat2 hc2
  have hA0 : Hid ((fun w' => Ext (w9) w' ∧ (∀ b o, b < (w9).heap.size → w'.cell? ⟨b, o, none⟩ = (w9).cell? ⟨b, o, none⟩) ∧ (∀ b o, b < (w9).heap.size → w'.frozen? ⟨b, o, none⟩ = (w9).frozen? ⟨b, o, none⟩)) w12) := held_of HB12.out
  refine wpHd_oneG (i := 22) rfl (by kernel_rfl) (by kernel_rfl) (fun KK hK => ?_)
  go_simp
  refine (HOQ.out _ (HE9.out.trans HB12.out)).mono ?_
  rintro e w13 ⟨y3, rfl, hm3, hat3, hc3, hb13⟩
  have HB13 := Hid.mk' (show Ext w9 w13 from HB12.out.trans hb13)
  have HY2b := Hid.mk' (HY2.out.ext hb13)
  have HY3 := Hid.mk' hat3
  have HM3 := Hid.mk' hm3
  refine hK.out _ _ (held_of HB13.out) (fun hA => ?_)
  clear hK KK hA hA0 hb13 hm3 hat3 hc3 HY2
  refine wpHd_oneG (i := 23) rfl (by kernel_rfl) (by kernel_rfl) (fun KK hK => ?_)
  go_simp
  refine (HAK.out y2 y3 _ HY2b.out HY3.out HM2.out HM3.out).mono ?_
  rintro e w14 ⟨rfl, hb14⟩
  have HB14 := Hid.mk' (show Ext w9 w14 from HB13.out.trans hb14)
  refine hK.out _ _ (held_of HB14.out) (fun hA => ?_)
  clear hK KK hA hb14 HY2b HY3 HM2 HM3
  have hA0 : Hid ((fun w' => Ext (w9) w' ∧ (∀ b o, b < (w9).heap.size → w'.cell? ⟨b, o, none⟩ = (w9).cell? ⟨b, o, none⟩) ∧ (∀ b o, b < (w9).heap.size → w'.frozen? ⟨b, o, none⟩ = (w9).frozen? ⟨b, o, none⟩)) w14) := held_of HB14.out
  refine wpHd_oneG (i := 26) rfl (by kernel_rfl) (by kernel_rfl) (fun KK hK => ?_)
  go_simp
  refine (HSM.out _ (HE9.out.trans HB14.out)).mono ?_
  rintro e w15 ⟨rfl, hb15⟩
  have HB15 := Hid.mk' (show Ext w9 w15 from HB14.out.trans hb15)
  refine hK.out _ _ (held_of HB15.out) (fun hA => ?_)
  clear hK KK hA hA0 hb15
  have hA0 : Hid ((fun w' => Ext (w9) w' ∧ (∀ b o, b < (w9).heap.size → w'.cell? ⟨b, o, none⟩ = (w9).cell? ⟨b, o, none⟩) ∧ (∀ b o, b < (w9).heap.size → w'.frozen? ⟨b, o, none⟩ = (w9).frozen? ⟨b, o, none⟩)) w15) := held_of HB15.out
  have hBE := HBE.out
  refine onk 27 83 hA0.out ?_
  try simp only [Act.put, List.setIfInBounds_toArray, List.set_cons_zero, List.set_cons_succ]
  clear hA0 hBE hEE hcv1 hcv2
  refine wpHd_tail (by kernel_rfl) ?_
  simp only [List.drop_succ_cons, List.drop_zero]
  go_upto_region 11 with (fail)
  have HX15 := Hid.mk' (HX9.out.ext HB15.out)
  have HEF := Hid.mk' (HE9.out.trans HB15.out)
  clear HX9 HY9 HB9 HE9 HB10 HB11 HB12 HB13 HB14 HB15 HOP HOQ HRI HAK HSM HE6
  have gX := HX15.out.cell
  have zX := HX15.out.lt
  have hA0 : Hid ((fun w' => Ext (w15) w' ∧ (∀ b o, b < (w15).heap.size → w'.cell? ⟨b, o, none⟩ = (w15).cell? ⟨b, o, none⟩) ∧ (∀ b o, b < (w15).heap.size → w'.frozen? ⟨b, o, none⟩ = (w15).frozen? ⟨b, o, none⟩)) w15.drew) := held_of (by exact eX)
  refine wp_region_head 12 (fun w' => Ext (w15) w' ∧ (∀ b o, b < (w15).heap.size → w'.cell? ⟨b, o, none⟩ = (w15).cell? ⟨b, o, none⟩) ∧ (∀ b o, b < (w15).heap.size → w'.frozen? ⟨b, o, none⟩ = (w15).frozen? ⟨b, o, none⟩)) (by kernel_rfl) (by decide) ?_
  refine HG.on 0 85 hA0.out ?_
  try simp only [Act.put, List.setIfInBounds_toArray, List.set_cons_zero, List.set_cons_succ]
  refine HG.on 1 86 hA0.out ?_
  try simp only [Act.put, List.setIfInBounds_toArray, List.set_cons_zero, List.set_cons_succ]
  refine HG.on 5 90 hA0.out ?_
  try simp only [Act.put, List.setIfInBounds_toArray, List.set_cons_zero, List.set_cons_succ]
  refine HG.on 6 91 hA0.out ?_
  try simp only [Act.put, List.setIfInBounds_toArray, List.set_cons_zero, List.set_cons_succ]
  clear gX zX
  refine wpHd_one (i := 2) rfl rfl (by kernel_rfl) (fun KK hK => ?_)
  go_simp
  refine (HEO.out _ (HEF.out.trans (by exact eX))).mono ?_
  rintro e w16 ⟨y4, rfl, he4, hat4, hb16⟩
  have HB16 := Hid.mk' (show Ext w15 w16 by exact eX)
  have HY4 := Hid.mk' hat4
  have HM4 := Hid.mk' he4
  refine hK.out _ _ (held_of HB16.out) (fun hA => ?_)
  clear hK KK hA hA0 hb16 he4 hat4
  refine wpHd_one (i := 3) rfl rfl (by kernel_rfl) (fun KK hK => ?_)
  go_simp
  refine (HMO.out y4 _ (HEF.out.trans HB16.out) HY4.out HM4.out).mono ?_
  rintro e w17 ⟨z5, rfl, hm5, hat5, hb17⟩
  have HB17 := Hid.mk' (show Ext w15 w17 from HB16.out.trans hb17)
  have HY5 := Hid.mk' hat5
  have HM5 := Hid.mk' hm5
  refine hK.out _ _ (held_of HB17.out) (fun hA => ?_)
  clear hK KK hA hb17 hm5 hat5 HY4 HM4
  refine wpHd_one (i := 4) rfl rfl (by kernel_rfl) (fun KK hK => ?_)
  go_simp
  refine (HBA.out z5 _ HY5.out HM5.out).mono ?_
  rintro e w18 ⟨y6, rfl, hm6, hat6, hb18⟩
  have HB18 := Hid.mk' (show Ext w15 w18 from HB17.out.trans hb18)
  have HY6 := Hid.mk' hat6
  have HM6 := Hid.mk' hm6
  refine hK.out _ _ (held_of HB18.out) (fun hA => ?_)
  clear hK KK hA hb18 hm6 hat6 HY5 HM5
  refine wpHd_one (i := 7) rfl rfl (by kernel_rfl) (fun KK hK => ?_)
  go_simp
  refine (HRF.out _).mono ?_
  rintro e w19 ⟨rfl, hb19⟩
  have HB19 := Hid.mk' (show Ext w15 w19 from HB18.out.trans hb19)
  have HY7 := Hid.mk' (HY6.out.ext hb19)
  refine hK.out _ _ (held_of HB19.out) (fun hA => ?_)
  clear hK KK hA hb19 HY6
  refine wpHd_one (i := 8) rfl rfl (by kernel_rfl) (fun KK hK => ?_)
  go_simp
  refine (HSS.out y6 _ (HEF.out.trans HB19.out) HY7.out HM6.out).mono ?_
  rintro e w20 ⟨rfl, hb20⟩
  have HB20 := Hid.mk' (show Ext w15 w20 from HB19.out.trans hb20)
  refine hK.out _ _ (held_of HB20.out) (fun hA => ?_)
  clear hK KK hA hb20 HY7 HM6
  have hA0 : Hid ((fun w' => Ext (w15) w' ∧ (∀ b o, b < (w15).heap.size → w'.cell? ⟨b, o, none⟩ = (w15).cell? ⟨b, o, none⟩) ∧ (∀ b o, b < (w15).heap.size → w'.frozen? ⟨b, o, none⟩ = (w15).frozen? ⟨b, o, none⟩)) w20) := held_of HB20.out
  refine HG.on 9 94 hA0.out ?_
  try simp only [Act.put, List.setIfInBounds_toArray, List.set_cons_zero, List.set_cons_succ]
  clear hA0
  refine wpHd_oneG (i := 10) rfl (by kernel_rfl) (by kernel_rfl) (fun KK hK => ?_)
  go_simp
  refine (HAW.out _ (HEF.out.trans HB20.out)).mono ?_
  rintro e w21 ⟨rfl, hb21⟩
  have HB21 := Hid.mk' (show Ext w15 w21 from HB20.out.trans hb21)
  refine hK.out _ _ (held_of HB21.out) (fun hA => ?_)
  clear hK KK hA hb21
  have hA0 : Hid ((fun w' => Ext (w15) w' ∧ (∀ b o, b < (w15).heap.size → w'.cell? ⟨b, o, none⟩ = (w15).cell? ⟨b, o, none⟩) ∧ (∀ b o, b < (w15).heap.size → w'.frozen? ⟨b, o, none⟩ = (w15).frozen? ⟨b, o, none⟩)) w21) := held_of HB21.out
  refine HG.on 11 96 hA0.out ?_
  try simp only [Act.put, List.setIfInBounds_toArray, List.set_cons_zero, List.set_cons_succ]
  clear hA0
  refine wpHd_tail (by kernel_rfl) ?_
  simp only [List.drop_succ_cons, List.drop_zero]
  go_wp2
  go_ret
  exact ⟨rfl, HEF.out.trans HB21.out⟩

end Go.Proofs.YtihldginolbooaaGreatDoor
