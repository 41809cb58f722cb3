/-
What is wrong with an event: the program's Right.
-/
import Derived.Test.YtihldginolbooaaGreatDoorP20
import Derived.Test.YtihldginolbooaaGreatDoorP5
import Derived.Test.YtihldginolbooaaGreatDoorP9
import Derived.Test.YtihldginolbooaaGreatDoorP2
import Derived.Test.YtihldginolbooaaGreatDoorP8
import Derived.Test.YtihldginolbooaaGreatDoorP3
namespace Go.Proofs.YtihldginolbooaaGreatDoor
open Go.RowKit

structure Ev.wk (e : Ev) : Prop where
  b : ∀ c ∈ e.b, c.wk
  a : ∀ c ∈ e.a, c.wk
  old : 0 ≤ e.old

set_option maxRecDepth 100000 in set_option maxHeartbeats 4000000 in
theorem eright_any (x : EL) (N g : Nat) (c : Value) (ps : List RR) (w : World) (hx : x.at 5 K.pc w) (hs : x.e.small) (hwk : x.e.wk) (hc : Ca w N g c ps) :
    Calls Tryz.prog 36 #[x.agg, .pointer (some ⟨g, 0, none⟩)] w fun e w' => e = .returned (.int .i64 (evE x.e (ps.map RR.r))) ∧ Ext w w' := by
  have HRW := Hid.mk' (fun W => rowed_any x W)
  have HOW := Hid.mk' (fun W (h : Ext w W) => pown13_any x W (hx.ext h) hs)
  have HTR := Hid.mk' (fun W (h : Ext w W) => trunc_any x N g c ps W (hx.ext h) hs (hc.ext h))
  have HG := Hid.mk' (fun W (h : Ext w W) => cget_any N g c ps x.e.ao x.e.av W (hc.ext h))
  have HGI := Hid.mk' (fun (r : Rl) (h : getR x.e.ao x.e.av (ps.map RR.r) = some r) W (h2 : Ext w W) => cget_is (hc.ext h2) h)
  have HIM := Hid.mk' (fun (r : Rl) (a2 : Option Addr) (c2 : Nat) (hr : r ∈ ps.map RR.r) W (h : Ext w W) (hl : Sl W (.slice a2 r.cols.length c2) 3 (r.cols.map Col.cells)) (hcp : r.cols.length ≤ c2) =>
    (show Calls Tryz.prog 68 #[.agg #[.int .u32 r.oid, .int .u32 r.ver, .string r.nm, .int .u8 r.id, .slice a2 r.cols.length c2], .int .u8 x.e.kind, .int .u8 x.e.old, .slice x.ba x.e.b.length x.bc, .slice x.aa x.e.a.length x.ac] W (fun e w' => e = .returned (.int .i64 (imgE r x.e.kind x.e.old x.e.b x.e.a)) ∧ Ext W w') from by
      obtain ⟨p, hp, rfl⟩ := List.mem_map.1 hr
      have hwb := hc.wb p hp
      exact image_any x.e.kind x.e.old x.e.b x.e.a x.ba x.aa x.bc x.ac p.r.oid p.r.ver p.r.nm p.r.id p.r.cols a2 c2 W hl hcp (by have := hc.n16 hp; omega) (hx.b.ext h) (hx.a.ext h) hs.b hs.a hwk.b hwk.a hwb.cs hwb.nm hwb.idn hwk.old))
  clear hx hs hwk hc
  obtain ⟨⟨k1, ao1, av1, old1, b1, a1, r1, fl1⟩, ba1, bc1, aa1, ac1, ra1, rc1⟩ := x
  unfold EL.agg at HRW HOW HTR ⊢
  simp only at HRW HOW HTR HG HGI HIM ⊢
  by_cases h0 : k1 < 4 ∨ 7 < k1
  · have HR := Hid.mk' (show evE (⟨k1, ao1, av1, old1, b1, a1, r1, fl1⟩ : Ev) (ps.map RR.r) = 7 from if_pos h0)
    have hr : rowedB k1 = false := decide_eq_false (by omega)
    have h7 : (k1 != 7) = true := by simp; omega
    rw [hr] at HRW
    clear hr h0
    go_enter Tryz.func36, Tryz.ntmps36
    go_wp2_with (go_at_call 64; refine (HRW.out _).mono ?_; rintro e w1 ⟨rfl, hb1⟩; have hE_w1 : Ext (w.alloc (.cells #[.int .u8 k1, .int .u32 ao1, .int .u32 av1, .int .u8 old1, .slice ba1 b1.length bc1, .slice aa1 a1.length ac1, .slice ra1 r1.length rc1, .int .u8 fl1] 54)) w1 := (by exact eX); obtain ⟨hc_w1, hf_w1⟩ := hE_w1.cells; have hz_w1 := hE_w1.size)
    go_ret
    exact ⟨ret_int HR.out.symm, by exact eX⟩
  have HR0 := Hid.mk' (show evE (⟨k1, ao1, av1, old1, b1, a1, r1, fl1⟩ : Ev) (ps.map RR.r) = _ from if_neg h0)
  simp only at HR0
  cases ho : ownB (⟨k1, ao1, av1, old1, b1, a1, r1, fl1⟩ : Ev) with
  | false =>
    have HR := Hid.mk' (show evE (⟨k1, ao1, av1, old1, b1, a1, r1, fl1⟩ : Ev) (ps.map RR.r) = 3 from by rw [HR0.out, if_pos ho])
    rw [ho] at HOW
    clear HR0 ho
    by_cases h7 : k1 = 7
    · have hr : rowedB k1 = false := decide_eq_false (by omega)
      have h7' : (k1 != 7) = false := by simp; omega
      rw [hr] at HRW
      clear hr h0 h7
      go_enter Tryz.func36, Tryz.ntmps36
      go_wp2_with (first | (go_at_call 64; refine (HRW.out _).mono ?_; rintro e w1 ⟨rfl, hb1⟩; have hE_w1 : Ext (w.alloc (.cells #[.int .u8 k1, .int .u32 ao1, .int .u32 av1, .int .u8 old1, .slice ba1 b1.length bc1, .slice aa1 a1.length ac1, .slice ra1 r1.length rc1, .int .u8 fl1] 54)) w1 := (by exact eX); obtain ⟨hc_w1, hf_w1⟩ := hE_w1.cells; have hz_w1 := hE_w1.size) | (go_at_call 65; refine (HOW.out _ (by exact eX)).mono ?_; rintro e w2 ⟨rfl, hb2⟩; (have hE_w2 : Ext (w.alloc (.cells #[.int .u8 k1, .int .u32 ao1, .int .u32 av1, .int .u8 old1, .slice ba1 b1.length bc1, .slice aa1 a1.length ac1, .slice ra1 r1.length rc1, .int .u8 fl1] 54)) w2 := (by exact eX); obtain ⟨hc_w2, hf_w2⟩ := hE_w2.cells; have hz_w2 := hE_w2.size)))
      go_ret
      exact ⟨ret_int HR.out.symm, by exact eX⟩
    · have hr : rowedB k1 = true := decide_eq_true (by omega)
      rw [hr] at HRW
      clear hr h0 h7
      go_enter Tryz.func36, Tryz.ntmps36
      go_wp2_with (first | (go_at_call 64; refine (HRW.out _).mono ?_; rintro e w1 ⟨rfl, hb1⟩; have hE_w1 : Ext (w.alloc (.cells #[.int .u8 k1, .int .u32 ao1, .int .u32 av1, .int .u8 old1, .slice ba1 b1.length bc1, .slice aa1 a1.length ac1, .slice ra1 r1.length rc1, .int .u8 fl1] 54)) w1 := (by exact eX); obtain ⟨hc_w1, hf_w1⟩ := hE_w1.cells; have hz_w1 := hE_w1.size) | (go_at_call 65; refine (HOW.out _ (by exact eX)).mono ?_; rintro e w2 ⟨rfl, hb2⟩; (have hE_w2 : Ext (w.alloc (.cells #[.int .u8 k1, .int .u32 ao1, .int .u32 av1, .int .u8 old1, .slice ba1 b1.length bc1, .slice aa1 a1.length ac1, .slice ra1 r1.length rc1, .int .u8 fl1] 54)) w2 := (by exact eX); obtain ⟨hc_w2, hf_w2⟩ := hE_w2.cells; have hz_w2 := hE_w2.size)))
      go_ret
      exact ⟨ret_int HR.out.symm, by exact eX⟩
  | true =>
  rw [ho] at HOW
  by_cases h7 : k1 = 7
  · have HR := Hid.mk' (show evE (⟨k1, ao1, av1, old1, b1, a1, r1, fl1⟩ : Ev) (ps.map RR.r) = truncE (⟨k1, ao1, av1, old1, b1, a1, r1, fl1⟩ : Ev) (ps.map RR.r) from by rw [HR0.out, if_neg (by rw [ho]; simp), if_pos h7])
    have hr : rowedB k1 = false := decide_eq_false (by omega)
    have h7' : (k1 != 7) = false := by simp; omega
    have h7'' : (k1 == 7) = true := by simp; omega
    rw [hr] at HRW
    clear hr h0 h7 HR0 ho
    go_enter Tryz.func36, Tryz.ntmps36
    go_wp2_with (first | (go_at_call 64; refine (HRW.out _).mono ?_; rintro e w1 ⟨rfl, hb1⟩; have hE_w1 : Ext (w.alloc (.cells #[.int .u8 k1, .int .u32 ao1, .int .u32 av1, .int .u8 old1, .slice ba1 b1.length bc1, .slice aa1 a1.length ac1, .slice ra1 r1.length rc1, .int .u8 fl1] 54)) w1 := (by exact eX); obtain ⟨hc_w1, hf_w1⟩ := hE_w1.cells; have hz_w1 := hE_w1.size) | (go_at_call 65; refine (HOW.out _ (by exact eX)).mono ?_; rintro e w2 ⟨rfl, hb2⟩; (have hE_w2 : Ext (w.alloc (.cells #[.int .u8 k1, .int .u32 ao1, .int .u32 av1, .int .u8 old1, .slice ba1 b1.length bc1, .slice aa1 a1.length ac1, .slice ra1 r1.length rc1, .int .u8 fl1] 54)) w2 := (by exact eX); obtain ⟨hc_w2, hf_w2⟩ := hE_w2.cells; have hz_w2 := hE_w2.size)) | (go_at_call 66; refine (HTR.out _ (by exact eX)).mono ?_; rintro e w3 ⟨rfl, hb3⟩))
    go_ret
    exact ⟨ret_int HR.out.symm, by exact eX⟩
  have hr : rowedB k1 = true := decide_eq_true (by omega)
  have h7' : (k1 == 7) = false := by simpa using h7
  rw [hr] at HRW
  rw [if_neg (by rw [ho]; simp), if_neg h7] at HR0
  clear hr h0 h7 ho
  cases hg : getR ao1 av1 (ps.map RR.r) with
  | none =>
    have HR := Hid.mk' (show evE (⟨k1, ao1, av1, old1, b1, a1, r1, fl1⟩ : Ev) (ps.map RR.r) = 10 from by rw [HR0.out, hg])
    have hh : hasR ao1 av1 (ps.map RR.r) = false := getR_none.1 hg
    rw [hh] at HG
    clear hg hh HR0
    go_enter Tryz.func36, Tryz.ntmps36
    go_wp2_with (first | (go_at_call 64; refine (HRW.out _).mono ?_; rintro e w1 ⟨rfl, hb1⟩; have hE_w1 : Ext (w.alloc (.cells #[.int .u8 k1, .int .u32 ao1, .int .u32 av1, .int .u8 old1, .slice ba1 b1.length bc1, .slice aa1 a1.length ac1, .slice ra1 r1.length rc1, .int .u8 fl1] 54)) w1 := (by exact eX); obtain ⟨hc_w1, hf_w1⟩ := hE_w1.cells; have hz_w1 := hE_w1.size) | (go_at_call 65; refine (HOW.out _ (by exact eX)).mono ?_; rintro e w2 ⟨rfl, hb2⟩; (have hE_w2 : Ext (w.alloc (.cells #[.int .u8 k1, .int .u32 ao1, .int .u32 av1, .int .u8 old1, .slice ba1 b1.length bc1, .slice aa1 a1.length ac1, .slice ra1 r1.length rc1, .int .u8 fl1] 54)) w2 := (by exact eX); obtain ⟨hc_w2, hf_w2⟩ := hE_w2.cells; have hz_w2 := hE_w2.size)) | (go_at_call 67; refine (HG.out _ (by exact eX)).mono ?_; rintro e w3 ⟨⟨⟨oid, ver, nm, id, cols⟩, qa, qc⟩, rfl, -, -, hb3⟩; (try unfold RR.agg); (try simp only)))
    go_ret
    exact ⟨ret_int HR.out.symm, by exact eX⟩
  | some r =>
    have HR := Hid.mk' (show evE (⟨k1, ao1, av1, old1, b1, a1, r1, fl1⟩ : Ev) (ps.map RR.r) = imgE r k1 old1 b1 a1 from by rw [HR0.out, hg])
    have HGI2 := Hid.mk' (HGI.out r hg)
    have HM := Hid.mk' ((getR_some hg).1)
    have HIM2 := Hid.mk' (fun a2 c2 => HIM.out r a2 c2 HM.out)
    generalize imgE r k1 old1 b1 a1 = R at HR HIM2
    obtain ⟨oid, ver, nm, id, cols⟩ := r
    simp only at HGI2 HIM2
    clear hg HR0 HGI HG
    go_enter Tryz.func36, Tryz.ntmps36
    go_wp2_with (first
      | (go_at_call 64; refine (HRW.out _).mono ?_; rintro e w1 ⟨rfl, hb1⟩; have hE_w1 : Ext (w.alloc (.cells #[.int .u8 k1, .int .u32 ao1, .int .u32 av1, .int .u8 old1, .slice ba1 b1.length bc1, .slice aa1 a1.length ac1, .slice ra1 r1.length rc1, .int .u8 fl1] 54)) w1 := (by exact eX); obtain ⟨hc_w1, hf_w1⟩ := hE_w1.cells; have hz_w1 := hE_w1.size)
      | (go_at_call 65; refine (HOW.out _ (by exact eX)).mono ?_; rintro e w2 ⟨rfl, hb2⟩; (have hE_w2 : Ext (w.alloc (.cells #[.int .u8 k1, .int .u32 ao1, .int .u32 av1, .int .u8 old1, .slice ba1 b1.length bc1, .slice aa1 a1.length ac1, .slice ra1 r1.length rc1, .int .u8 fl1] 54)) w2 := (by exact eX); obtain ⟨hc_w2, hf_w2⟩ := hE_w2.cells; have hz_w2 := hE_w2.size))
      | (go_at_call 67; refine (HGI2.out _ (by exact eX)).mono ?_; rintro e w3 ⟨⟨qr, qa, qc⟩, rfl, hqr, hqo, hb3⟩; simp only at hqr; subst hqr; have HQO := Hid.mk' hqo; (have hE_w3 : Ext (w.alloc (.cells #[.int .u8 k1, .int .u32 ao1, .int .u32 av1, .int .u8 old1, .slice ba1 b1.length bc1, .slice aa1 a1.length ac1, .slice ra1 r1.length rc1, .int .u8 fl1] 54)) w3 := (by exact eX); obtain ⟨hc_w3, hf_w3⟩ := hE_w3.cells; have hz_w3 := hE_w3.size); have z3 : w.heap.size < w3.heap.size := (by have := hE_w3.size; simp at this; omega); clear hqo; (try simp only))
      | (go_at_call 68; refine (HIM2.out _ _ _ (by exact eX) (HQO.out.in.ext (by exact eX)) (owns_cap HQO.out)).mono ?_; rintro e w4 ⟨rfl, hb4⟩))
    go_ret
    exact ⟨ret_int HR.out.symm, by exact eX⟩

end Go.Proofs.YtihldginolbooaaGreatDoor

/-
Messages in plain words: what is wrong with one, its bytes.
-/
namespace Go.Proofs.YtihldginolbooaaGreatDoor
open Go.RowKit

/-- A message: a kind's letter, and what it tells. -/
structure Msg where
  k : Int
  x : Int
  st : Int
  n : Int
  r : Rl
  e : Ev
def Rl0 : Rl := ⟨0, 0, ⟨#[]⟩, 0, []⟩
def Ev0 : Ev := ⟨0, 0, 0, 0, [], [], [], 0⟩
/-- An event's kind by its letter; whether there is such a letter. -/
def wkind (k : Int) : Int := if k = 73 then 4 else if k = 85 then 5 else if k = 68 then 6 else if k = 84 then 7 else 0
def wlet (k : Int) : Bool := decide (k = 66 ∨ k = 67 ∨ k = 82 ∨ 0 < wkind k)
noncomputable def msgB (a b : Msg) : Bool := decide (a.k = b.k ∧ a.x = b.x ∧ a.st = b.st ∧ a.n = b.n) && rlB a.r b.r && evB a.e b.e
theorem msgB_true {a b : Msg} : msgB a b = true ↔ a = b := by
  unfold msgB
  rw [Bool.and_eq_true, Bool.and_eq_true, rlB_true, evB_true, decide_eq_true_eq]
  obtain ⟨k, x, st, n, r, e⟩ := a
  obtain ⟨k', x', st', n', r', e'⟩ := b
  simp only [Msg.mk.injEq]
  constructor
  · rintro ⟨⟨⟨h1, h2, h3, h4⟩, h5⟩, h6⟩; exact ⟨h1, h2, h3, h4, h5, h6⟩
  · rintro ⟨h1, h2, h3, h4, h5, h6⟩; exact ⟨⟨⟨h1, h2, h3, h4⟩, h5⟩, h6⟩
/-- A message with nothing but what is its kind's. -/
def Msg.own (m : Msg) : Msg := if m.k = 66 then ⟨66, m.x, m.st, 0, Rl0, Ev0⟩ else if m.k = 67 then ⟨67, m.x, 0, m.n, Rl0, Ev0⟩ else if m.k = 82 then ⟨82, 0, 0, 0, m.r, Ev0⟩ else ⟨m.k, 0, 0, 0, Rl0, m.e⟩
/-- What is wrong with a message. -/
noncomputable def msgE (m : Msg) (rs : List Rl) : Int :=
  if wlet m.k = false then 7 else if msgB m m.own = false then 3 else if m.k = 66 ∨ m.k = 67 then (if m.x = 0 then 4 else 0) else if m.k = 82 then m.r.right else if m.e.kind ≠ wkind m.k then 7 else evE m.e rs
/-- The message of an event. -/
def msgOf (e : Ev) : Msg := if e.kind = 4 then ⟨73, 0, 0, 0, Rl0, e⟩ else if e.kind = 5 then ⟨85, 0, 0, 0, Rl0, e⟩ else if e.kind = 6 then ⟨68, 0, 0, 0, Rl0, e⟩ else if e.kind = 7 then ⟨84, 0, 0, 0, Rl0, e⟩ else ⟨0, 0, 0, 0, Rl0, Ev0⟩
/-- A message's body, its bytes. -/
def bodyW (m : Msg) : List Int :=
  if m.k = 66 then octs m.x 4 ++ octs m.st 8 else if m.k = 67 then octs m.x 4 ++ octs m.n 4 else if m.k = 82 then relW m.r else if m.k = 84 then octs m.e.rs.length 1 ++ (octs m.e.fl 1 ++ refsW m.e.rs)
  else refW m.e.ao m.e.av ++ ((if m.e.old = 1 then imgW 75 m.e.b else if m.e.old = 2 then imgW 79 m.e.b else []) ++ (if m.k = 68 then [] else imgW 78 m.e.a))
noncomputable def msgW (m : Msg) (rs : List Rl) : List Int := if msgE m rs ≠ 0 then [] else m.k :: (octs (bodyW m).length 4 ++ bodyW m)

end Go.Proofs.YtihldginolbooaaGreatDoor

/-
A head whose condition grows behind a call; an operation with a guard that is on; two that may come up.
-/
namespace Go.Proofs.YtihldginolbooaaGreatDoor
open Go.RowKit

section
variable {P : Program} {ops : Array Oper} {Q : Exit → Act → World → Prop} {md : Region.Mode} {S S' : World → Prop}

/-- What is shown under a condition that says more is shown under one that says less. -/
theorem wpHd_str {n : Nat} (hS : ∀ w, S' w → S w) : ∀ (f : Nat) (listed : Array Bool) (a : Act) (w : World), wpHd P md ops Q S' n f listed a w → wpHd P md ops Q S n f listed a w
  | 0, _, _, _, h => h
  | f + 1, _, _, _, ⟨h0, h⟩ => ⟨h0, fun i hi => ⟨(h i hi).1, wpOp_mono (fun _ _ h' => ⟨hS _ h'.1, wpHd_str hS f _ _ _ h'.2⟩) (h i hi).2⟩⟩

/-- Number 'i' alone may come up, its guard is on. -/
theorem wpHd_oneG {n i : Nat} {o : Oper} {f : Nat} {listed : Array Bool} {a : Act} {w : World} (hi : ops[i]? = some o) (hg : Region.wanted o (yielded ops a.tmps) = true)
    (hr : (decide (Region.ready md ops listed = [i]) && decide (i < n)) = true)
    (h : ∀ K : Act → World → Prop, Hid (∀ a' w', S w' → (S w' → wpHd P md ops Q S n f (listed.setIfInBounds i true) a' w') → K a' w') → o.wp P a w K Q) : wpHd P md ops Q S n (f + 1) listed a w := by
  simp only [Bool.and_eq_true, decide_eq_true_eq] at hr
  refine ⟨by rw [hr.1]; simp, fun j hj => ?_⟩
  rw [hr.1] at hj
  have hji : j = i := by simpa using hj
  subst hji
  refine ⟨hr.2, ?_⟩
  unfold wpOp
  simp only [hi]
  rw [if_pos hg]
  exact .inl (h _ (fun a' w' hs hk => ⟨hs, hk hs⟩))

/-- Numbers 'i' and 'j' may come up. -/
theorem wpHd_two {n i j : Nat} {o o2 : Oper} {f : Nat} {listed : Array Bool} {a : Act} {w : World} (hi : ops[i]? = some o) (hg : o.guard = none) (hj : ops[j]? = some o2) (hg2 : o2.guard = none)
    (hr : (decide (Region.ready md ops listed = [i, j]) && (decide (i < n) && decide (j < n))) = true)
    (h : ∀ K : Act → World → Prop, Hid (∀ a' w', S w' → (S w' → wpHd P md ops Q S n f (listed.setIfInBounds i true) a' w') → K a' w') → o.wp P a w K Q)
    (h2 : ∀ K : Act → World → Prop, Hid (∀ a' w', S w' → (S w' → wpHd P md ops Q S n f (listed.setIfInBounds j true) a' w') → K a' w') → o2.wp P a w K Q) : wpHd P md ops Q S n (f + 1) listed a w := by
  simp only [Bool.and_eq_true, decide_eq_true_eq] at hr
  refine ⟨by rw [hr.1]; simp, fun k hk => ?_⟩
  rw [hr.1] at hk
  simp only [List.mem_cons, List.not_mem_nil, or_false] at hk
  rcases hk with rfl | rfl
  · refine ⟨hr.2.1, ?_⟩
    unfold wpOp
    simp only [hi]
    rw [if_pos (by simp [Region.wanted, hg])]
    exact .inl (h _ (fun a' w' hs hk => ⟨hs, hk hs⟩))
  · refine ⟨hr.2.2, ?_⟩
    unfold wpOp
    simp only [hj]
    rw [if_pos (by simp [Region.wanted, hg2])]
    exact .inl (h2 _ (fun a' w' hs hk => ⟨hs, hk hs⟩))
end

end Go.Proofs.YtihldginolbooaaGreatDoor

/-
Messages in memory; the program's own: a message with nothing but what is its kind's.
-/
namespace Go.Proofs.YtihldginolbooaaGreatDoor
open Go.RowKit

/-- A message that lies somewhere. -/
structure ML where
  k : Int
  x : Int
  st : Int
  n : Int
  r : RR
  e : EL
def ML.m (p : ML) : Msg := ⟨p.k, p.x, p.st, p.n, p.r.r, p.e.e⟩
def ML.arr (p : ML) : Array Value := #[.int .u8 p.k, .int .u32 p.x, .int .u64 p.st, .int .u32 p.n, .int .u32 p.r.r.oid, .int .u32 p.r.r.ver, .string p.r.r.nm, .int .u8 p.r.r.id, .slice p.r.a p.r.r.cols.length p.r.c, .int .u8 p.e.e.kind, .int .u32 p.e.e.ao, .int .u32 p.e.e.av, .int .u8 p.e.e.old, .slice p.e.ba p.e.e.b.length p.e.bc, .slice p.e.aa p.e.e.a.length p.e.ac, .slice p.e.ra p.e.e.rs.length p.e.rc, .int .u8 p.e.e.fl]
def ML.agg (p : ML) : Value := .agg p.arr
def ML.at (n : Nat) (f : K → List Value) (W : World) (p : ML) : Prop := p.r.in W ∧ p.e.at n f W
theorem ML.at.ext {n : Nat} {f : K → List Value} {W W' : World} {p : ML} (h : p.at n f W) (he : Ext W W') : p.at n f W' := ⟨h.1.ext he, h.2.ext he⟩
def ML.own (p : ML) : ML :=
  let r0 : RR := ⟨Rl0, none, 0⟩
  let e0 : EL := ⟨Ev0, none, 0, none, 0, none, 0⟩
  if p.k = 66 then ⟨66, p.x, p.st, 0, r0, e0⟩ else if p.k = 67 then ⟨67, p.x, 0, p.n, r0, e0⟩ else if p.k = 82 then ⟨82, 0, 0, 0, p.r, e0⟩ else ⟨p.k, 0, 0, 0, r0, p.e⟩
theorem RR.in_zero (W : World) : (⟨Rl0, none, 0⟩ : RR).in W := ⟨none, 0, rfl, .inl rfl⟩
theorem EL.at_zero (n : Nat) (f : K → List Value) (W : World) : (⟨Ev0, none, 0, none, 0, none, 0⟩ : EL).at n f W := ⟨⟨none, 0, rfl, .inl rfl⟩, ⟨none, 0, rfl, .inl rfl⟩, ⟨none, 0, rfl, .inl rfl⟩⟩
theorem ML.own_m (p : ML) : p.own.m = p.m.own := by
  unfold ML.own Msg.own ML.m
  simp only
  by_cases h1 : p.k = 66
  · rw [if_pos h1, if_pos h1]
  · rw [if_neg h1, if_neg h1]
    by_cases h2 : p.k = 67
    · rw [if_pos h2, if_pos h2]
    · rw [if_neg h2, if_neg h2]
      by_cases h3 : p.k = 82
      · rw [if_pos h3, if_pos h3]
      · rw [if_neg h3, if_neg h3]
theorem ML.own_at {n : Nat} {f : K → List Value} {W : World} {p : ML} (h : p.at n f W) : p.own.at n f W := by
  unfold ML.own
  simp only
  split
  · exact ⟨RR.in_zero W, EL.at_zero n f W⟩
  · split
    · exact ⟨RR.in_zero W, EL.at_zero n f W⟩
    · split
      · exact ⟨h.1, EL.at_zero n f W⟩
      · exact ⟨RR.in_zero W, h.2⟩

theorem Blk.c17 {W : World} {b : Nat} {t : TypeId} {u0 u1 u2 u3 u4 u5 u6 u7 u8 u9 u10 u11 u12 u13 u14 u15 u16 v0 v1 v2 v3 v4 v5 v6 v7 v8 v9 v10 v11 v12 v13 v14 v15 v16 : Value} (h : Blk W b #[u0, u1, u2, u3, u4, u5, u6, u7, u8, u9, u10, u11, u12, u13, u14, u15, u16] t) : Blk (((((((((((((((((W.setCell ⟨b, 0, none⟩ v0).setCell ⟨b, 1, none⟩ v1).setCell ⟨b, 2, none⟩ v2).setCell ⟨b, 3, none⟩ v3).setCell ⟨b, 4, none⟩ v4).setCell ⟨b, 5, none⟩ v5).setCell ⟨b, 6, none⟩ v6).setCell ⟨b, 7, none⟩ v7).setCell ⟨b, 8, none⟩ v8).setCell ⟨b, 9, none⟩ v9).setCell ⟨b, 10, none⟩ v10).setCell ⟨b, 11, none⟩ v11).setCell ⟨b, 12, none⟩ v12).setCell ⟨b, 13, none⟩ v13).setCell ⟨b, 14, none⟩ v14).setCell ⟨b, 15, none⟩ v15).setCell ⟨b, 16, none⟩ v16) b #[v0, v1, v2, v3, v4, v5, v6, v7, v8, v9, v10, v11, v12, v13, v14, v15, v16] t := by
  have h1 := (((((((((((((((((h.set 0 v0).set 1 v1).set 2 v2).set 3 v3).set 4 v4).set 5 v5).set 6 v6).set 7 v7).set 8 v8).set 9 v9).set 10 v10).set 11 v11).set 12 v12).set 13 v13).set 14 v14).set 15 v15).set 16 v16)
  simpa only [List.setIfInBounds_toArray, List.set_cons_zero, List.set_cons_succ] using h1
theorem Ext.c17 {W0 W : World} {b : Nat} {v0 v1 v2 v3 v4 v5 v6 v7 v8 v9 v10 v11 v12 v13 v14 v15 v16 : Value} (h : Ext W0 W) (hb : W0.heap.size ≤ b) : Ext W0 (((((((((((((((((W.setCell ⟨b, 0, none⟩ v0).setCell ⟨b, 1, none⟩ v1).setCell ⟨b, 2, none⟩ v2).setCell ⟨b, 3, none⟩ v3).setCell ⟨b, 4, none⟩ v4).setCell ⟨b, 5, none⟩ v5).setCell ⟨b, 6, none⟩ v6).setCell ⟨b, 7, none⟩ v7).setCell ⟨b, 8, none⟩ v8).setCell ⟨b, 9, none⟩ v9).setCell ⟨b, 10, none⟩ v10).setCell ⟨b, 11, none⟩ v11).setCell ⟨b, 12, none⟩ v12).setCell ⟨b, 13, none⟩ v13).setCell ⟨b, 14, none⟩ v14).setCell ⟨b, 15, none⟩ v15).setCell ⟨b, 16, none⟩ v16) := by
  repeat refine Ext.setCell ?_ hb _
  exact h
set_option maxRecDepth 20000 in
theorem res_own {W : World} {b : Nat} {v0 v1 v2 v3 v4 v5 v6 v7 v8 v9 v10 v11 v12 v13 v14 v15 v16 : Value} {tm : Array Value} (h : Blk W b #[v0, v1, v2, v3, v4, v5, v6, v7, v8, v9, v10, v11, v12, v13, v14, v15, v16] 56) (ht : tm.getD 2 undef = .pointer (some ⟨b, 0, none⟩)) :
    (results Tryz.f34 tm).run Tryz.prog W = .ok (.agg #[v0, v1, v2, v3, v4, v5, v6, v7, v8, v9, v10, v11, v12, v13, v14, v15, v16]) W := by
  have c := h.cell
  have c0 := c 0
  have c1 := c 1
  have c2 := c 2
  have c3 := c 3
  have c4 := c 4
  have c5 := c 5
  have c6 := c 6
  have c7 := c 7
  have c8 := c 8
  have c9 := c 9
  have c10 := c 10
  have c11 := c 11
  have c12 := c 12
  have c13 := c 13
  have c14 := c 14
  have c15 := c 15
  have c16 := c 16
  clear c h
  simp at c0 c1 c2 c3 c4 c5 c6 c7 c8 c9 c10 c11 c12 c13 c14 c15 c16
  rw [Array.getD_eq_getD_getElem?] at ht
  simp [results, Tryz.results34, go_sem, ht, c0, c1, c2, c3, c4, c5, c6, c7, c8, c9, c10, c11, c12, c13, c14, c15, c16]

end Go.Proofs.YtihldginolbooaaGreatDoor

/-
A message of 17 cells read as one, stored as one.
-/
namespace Go.Proofs.YtihldginolbooaaGreatDoor
open Go.RowKit

theorem wpList_load_to {w : World} {ops : Array Oper} {rest : List Oper} {o : Oper} {a : Act} {Q : Exit → Act → World → Prop} (hgd : o.guard = none) (ty : TypeId) (x : Operand) (ho : o.op = .load ty x)
    (p v : Value) (hx : a.eval x = p) (hr : (Instr.loadAt ty p).run Tryz.prog w = .ok v w) (h : wpList Tryz.prog ops Q rest (a.put o.dst v) w) : wpList Tryz.prog ops Q (o :: rest) a w := by
  refine wpList_plain hgd fun K hK => ?_
  unfold Oper.wp execOp
  simp only [ho, Sem.run_bind, Sem.run_pure, Result.andThen_ok, hx, hr]
  exact hK _ _ h
theorem wpList_store_to {w w' : World} {ops : Array Oper} {rest : List Oper} {o : Oper} {a : Act} {Q : Exit → Act → World → Prop} (hgd : o.guard = none) (ty : TypeId) (x y : Operand) (ho : o.op = .store ty x y)
    (p v : Value) (hx : a.eval x = p) (hy : a.eval y = v) (hr : (Instr.storeAt ty p v).run Tryz.prog w = .ok () w') (h : wpList Tryz.prog ops Q rest (a.put o.dst undef) w') : wpList Tryz.prog ops Q (o :: rest) a w := by
  refine wpList_plain hgd fun K hK => ?_
  unfold Oper.wp execOp
  simp only [ho, Sem.run_bind, Sem.run_pure, Result.andThen_ok, hx, hy, hr]
  exact hK _ _ h

set_option maxRecDepth 20000 in
theorem load17 {W : World} {b : Nat} {v0 v1 v2 v3 v4 v5 v6 v7 v8 v9 v10 v11 v12 v13 v14 v15 v16 : Value} (h : Blk W b #[v0, v1, v2, v3, v4, v5, v6, v7, v8, v9, v10, v11, v12, v13, v14, v15, v16] 56) :
    (Instr.loadAt 56 (.pointer (some ⟨b, 0, none⟩))).run Tryz.prog W = .ok (.agg #[v0, v1, v2, v3, v4, v5, v6, v7, v8, v9, v10, v11, v12, v13, v14, v15, v16]) W := by
  have c := h.cell
  have c0 := c 0
  have c1 := c 1
  have c2 := c 2
  have c3 := c 3
  have c4 := c 4
  have c5 := c 5
  have c6 := c 6
  have c7 := c 7
  have c8 := c 8
  have c9 := c 9
  have c10 := c 10
  have c11 := c 11
  have c12 := c 12
  have c13 := c 13
  have c14 := c 14
  have c15 := c 15
  have c16 := c 16
  clear c h
  simp at c0 c1 c2 c3 c4 c5 c6 c7 c8 c9 c10 c11 c12 c13 c14 c15 c16
  simp [go_sem, c0, c1, c2, c3, c4, c5, c6, c7, c8, c9, c10, c11, c12, c13, c14, c15, c16]

set_option maxRecDepth 20000 in set_option maxHeartbeats 2000000 in
theorem store17 {W : World} {b : Nat} {u0 u1 u2 u3 u4 u5 u6 u7 u8 u9 u10 u11 u12 u13 u14 u15 u16 : Value} {i0 i1 i2 i3 i4 i5 i7 i9 i10 i11 i12 i16 : Int} {s6 : ByteArray} {a8 a13 a14 a15 : Option Addr} {n8 c8 n13 c13 n14 c14 n15 c15 : Nat} (h : Blk W b #[u0, u1, u2, u3, u4, u5, u6, u7, u8, u9, u10, u11, u12, u13, u14, u15, u16] 56) :
    (Instr.storeAt 56 (.pointer (some ⟨b, 0, none⟩)) (.agg #[.int .u8 i0, .int .u32 i1, .int .u64 i2, .int .u32 i3, .int .u32 i4, .int .u32 i5, .string s6, .int .u8 i7, .slice a8 n8 c8, .int .u8 i9, .int .u32 i10, .int .u32 i11, .int .u8 i12, .slice a13 n13 c13, .slice a14 n14 c14, .slice a15 n15 c15, .int .u8 i16])).run Tryz.prog W = .ok () (((((((((((((((((W.setCell ⟨b, 0, none⟩ (.int .u8 i0)).setCell ⟨b, 1, none⟩ (.int .u32 i1)).setCell ⟨b, 2, none⟩ (.int .u64 i2)).setCell ⟨b, 3, none⟩ (.int .u32 i3)).setCell ⟨b, 4, none⟩ (.int .u32 i4)).setCell ⟨b, 5, none⟩ (.int .u32 i5)).setCell ⟨b, 6, none⟩ (.string s6)).setCell ⟨b, 7, none⟩ (.int .u8 i7)).setCell ⟨b, 8, none⟩ (.slice a8 n8 c8)).setCell ⟨b, 9, none⟩ (.int .u8 i9)).setCell ⟨b, 10, none⟩ (.int .u32 i10)).setCell ⟨b, 11, none⟩ (.int .u32 i11)).setCell ⟨b, 12, none⟩ (.int .u8 i12)).setCell ⟨b, 13, none⟩ (.slice a13 n13 c13)).setCell ⟨b, 14, none⟩ (.slice a14 n14 c14)).setCell ⟨b, 15, none⟩ (.slice a15 n15 c15)).setCell ⟨b, 16, none⟩ (.int .u8 i16)) := by
  have c := h.cell
  have hf := h.frozen
  have c0 := c 0
  have c1 := c 1
  have c2 := c 2
  have c3 := c 3
  have c4 := c 4
  have c5 := c 5
  have c6 := c 6
  have c7 := c 7
  have c8 := c 8
  have c9 := c 9
  have c10 := c 10
  have c11 := c 11
  have c12 := c 12
  have c13 := c 13
  have c14 := c 14
  have c15 := c 15
  have c16 := c 16
  clear c h
  simp at c0 c1 c2 c3 c4 c5 c6 c7 c8 c9 c10 c11 c12 c13 c14 c15 c16
  simp [go_sem, c0, c1, c2, c3, c4, c5, c6, c7, c8, c9, c10, c11, c12, c13, c14, c15, c16, hf]

end Go.Proofs.YtihldginolbooaaGreatDoor

/-
A message of 17 cells read as one, stored as one: of the reference.
-/
namespace Go.Proofs.YtihldginolbooaaGreatDoor
open Go.RowKit

set_option maxRecDepth 20000 in
theorem rload17 {W : World} {b : Nat} {v0 v1 v2 v3 v4 v5 v6 v7 v8 v9 v10 v11 v12 v13 v14 v15 v16 : Value} (h : Blk W b #[v0, v1, v2, v3, v4, v5, v6, v7, v8, v9, v10, v11, v12, v13, v14, v15, v16] 35) :
    (Instr.loadAt 35 (.pointer (some ⟨b, 0, none⟩))).run Tryz.prog W = .ok (.agg #[v0, v1, v2, v3, v4, v5, v6, v7, v8, v9, v10, v11, v12, v13, v14, v15, v16]) W := by
  have c := h.cell
  have c0 := c 0
  have c1 := c 1
  have c2 := c 2
  have c3 := c 3
  have c4 := c 4
  have c5 := c 5
  have c6 := c 6
  have c7 := c 7
  have c8 := c 8
  have c9 := c 9
  have c10 := c 10
  have c11 := c 11
  have c12 := c 12
  have c13 := c 13
  have c14 := c 14
  have c15 := c 15
  have c16 := c 16
  clear c h
  simp at c0 c1 c2 c3 c4 c5 c6 c7 c8 c9 c10 c11 c12 c13 c14 c15 c16
  simp [go_sem, c0, c1, c2, c3, c4, c5, c6, c7, c8, c9, c10, c11, c12, c13, c14, c15, c16]

set_option maxRecDepth 20000 in set_option maxHeartbeats 2000000 in
theorem rstore17 {W : World} {b : Nat} {u0 u1 u2 u3 u4 u5 u6 u7 u8 u9 u10 u11 u12 u13 u14 u15 u16 : Value} {i0 i1 i2 i3 i4 i5 i7 i9 i10 i11 i12 i16 : Int} {s6 : ByteArray} {a8 a13 a14 a15 : Option Addr} {n8 c8 n13 c13 n14 c14 n15 c15 : Nat} (h : Blk W b #[u0, u1, u2, u3, u4, u5, u6, u7, u8, u9, u10, u11, u12, u13, u14, u15, u16] 35) :
    (Instr.storeAt 35 (.pointer (some ⟨b, 0, none⟩)) (.agg #[.int .u8 i0, .int .u32 i1, .int .u64 i2, .int .u32 i3, .int .u32 i4, .int .u32 i5, .string s6, .int .u8 i7, .slice a8 n8 c8, .int .u8 i9, .int .u32 i10, .int .u32 i11, .int .u8 i12, .slice a13 n13 c13, .slice a14 n14 c14, .slice a15 n15 c15, .int .u8 i16])).run Tryz.prog W = .ok () (((((((((((((((((W.setCell ⟨b, 0, none⟩ (.int .u8 i0)).setCell ⟨b, 1, none⟩ (.int .u32 i1)).setCell ⟨b, 2, none⟩ (.int .u64 i2)).setCell ⟨b, 3, none⟩ (.int .u32 i3)).setCell ⟨b, 4, none⟩ (.int .u32 i4)).setCell ⟨b, 5, none⟩ (.int .u32 i5)).setCell ⟨b, 6, none⟩ (.string s6)).setCell ⟨b, 7, none⟩ (.int .u8 i7)).setCell ⟨b, 8, none⟩ (.slice a8 n8 c8)).setCell ⟨b, 9, none⟩ (.int .u8 i9)).setCell ⟨b, 10, none⟩ (.int .u32 i10)).setCell ⟨b, 11, none⟩ (.int .u32 i11)).setCell ⟨b, 12, none⟩ (.int .u8 i12)).setCell ⟨b, 13, none⟩ (.slice a13 n13 c13)).setCell ⟨b, 14, none⟩ (.slice a14 n14 c14)).setCell ⟨b, 15, none⟩ (.slice a15 n15 c15)).setCell ⟨b, 16, none⟩ (.int .u8 i16)) := by
  have c := h.cell
  have hf := h.frozen
  have c0 := c 0
  have c1 := c 1
  have c2 := c 2
  have c3 := c 3
  have c4 := c 4
  have c5 := c 5
  have c6 := c 6
  have c7 := c 7
  have c8 := c 8
  have c9 := c 9
  have c10 := c 10
  have c11 := c 11
  have c12 := c 12
  have c13 := c 13
  have c14 := c 14
  have c15 := c 15
  have c16 := c 16
  clear c h
  simp at c0 c1 c2 c3 c4 c5 c6 c7 c8 c9 c10 c11 c12 c13 c14 c15 c16
  simp [go_sem, c0, c1, c2, c3, c4, c5, c6, c7, c8, c9, c10, c11, c12, c13, c14, c15, c16, hf]

end Go.Proofs.YtihldginolbooaaGreatDoor
