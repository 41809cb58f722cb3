/-
record.Put, whole.
-/
import Derived.Test.YtlobghojjfkchaaGreatP18
namespace Go.Proofs.YtlobghojjfkchaaGreat
open Go.RowKit

/-- What Put answers: bytes of its own, texts, an error. -/
def RecPutQ (B : List Int) (T : List ByteArray) (E : Int) (w : World) (e : Ending) (w' : World) : Prop :=
  ∃ a c a' c', e = .returned (.tuple #[.slice a B.length c, .slice a' T.length c', .int .i64 E]) ∧ OB w' w.heap.size (.slice a B.length c) B ∧ Sl w' (.slice a' T.length c') 1 (T.map strC) ∧ Ext w w'
theorem Sl.none0 (W : World) (k : Nat) : Sl W (.slice none 0 0) k [] := ⟨none, 0, rfl, .inl rfl⟩

set_option maxRecDepth 100000 in set_option maxHeartbeats 4000000 in
theorem recputv_any (x : EL) (ver : Int) (g : Nat) (w : World) (hv : ¬ (ver = 1 ∨ ver = 2)) (_h0 : 0 ≤ ver) :
    Calls Tryz.prog 12 #[.pointer (some ⟨g, 0, none⟩), x.agg, .int .u8 ver] w (RecPutQ [] [] 18 w) := by
  obtain ⟨⟨kind, ao, av, old, b, a, rs, fl⟩, ba, bc, aa, ac, ra, rc⟩ := x
  unfold EL.agg
  simp only
  by_cases h1 : ver < 1
  · have hd : decide (ver < 1) = true := by simpa using h1
    go_enter Tryz.func12, Tryz.ntmps12
    go_wp2
    go_ret3
    exact ⟨_, _, _, _, rfl, OB.nil _ _, Sl.none0 _ _, by exact eX⟩
  · have h2 : 2 < ver := by omega
    have hd1 : decide (ver < 1) = false := by simpa using h1
    have hd2 : decide (2 < ver) = true := by simpa using h2
    go_enter Tryz.func12, Tryz.ntmps12
    go_wp2
    go_ret3
    exact ⟨_, _, _, _, rfl, OB.nil _ _, Sl.none0 _ _, by exact eX⟩

set_option maxRecDepth 100000 in set_option maxHeartbeats 4000000 in
theorem recpute_any (x : EL) (ver : Int) (N g : Nat) (c : Value) (ps : List RR) (w : World) (hx : x.at 5 K.pc w) (hs : x.e.small) (hwk : x.e.wk) (hc : Ca w N g c ps) (hz : evE x.e (ps.map RR.r) ≠ 0) (hv : ver = 1 ∨ ver = 2) :
    Calls Tryz.prog 12 #[.pointer (some ⟨g, 0, none⟩), x.agg, .int .u8 ver] w (RecPutQ [] [] (evE x.e (ps.map RR.r)) w) := by
  have HRG := Hid.mk' (fun W (h : Ext w W) => eright_any x N g c ps W (hx.ext h) hs hwk (hc.ext h))
  clear hx hs hwk hc
  obtain ⟨⟨kind, ao, av, old, b, a, rs, fl⟩, ba, bc, aa, ac, ra, rc⟩ := x
  unfold EL.agg at HRG ⊢
  simp only at HRG ⊢
  generalize evE _ _ = E at HRG hz ⊢
  have hne : (E != 0) = true := by simpa using hz
  clear hz
  rcases hv with rfl | rfl
  all_goals
    go_enter Tryz.func12, Tryz.ntmps12
    go_wp2_with (go_at_call 37; refine (HRG.out _ (by exact eX)).mono ?_; rintro e w1 ⟨rfl, hb1⟩; have HE1 := Hid.mk' (((Ext.refl w).alloc _).trans hb1); clear hb1)
    go_ret3
    exact ⟨_, _, _, _, rfl, OB.nil _ _, Sl.none0 _ _, HE1.out⟩

theorem colsOf_some {e : Ev} {l : List Rl} {r : Rl} (h : getR e.ao e.av l = some r) : colsOf e l = r.cols := by unfold colsOf; rw [h]
/-- Put of whatever event. -/
theorem recput_any (x : EL) (ver : Int) (N g : Nat) (c : Value) (ps : List RR) (w : World) (hx : x.at 5 K.pc w) (hs : x.e.small) (hwk : x.e.wk) (hc : Ca w N g c ps) (ht : x.e.tw) (h0 : 0 ≤ ver) :
    Calls Tryz.prog 12 #[.pointer (some ⟨g, 0, none⟩), x.agg, .int .u8 ver] w (RecPutQ (recB x.e (ps.map RR.r) ver) (recT x.e (ps.map RR.r) ver) (recE x.e (ps.map RR.r) ver) w) := by
  unfold recB recT
  by_cases hv : ver = 1 ∨ ver = 2
  · have hE : recE x.e (ps.map RR.r) ver = evE x.e (ps.map RR.r) := by unfold recE; rw [if_pos hv]
    rw [hE]
    by_cases hz : evE x.e (ps.map RR.r) = 0
    · rw [if_pos hz, if_pos hz, hz]
      unfold recPay recTx
      by_cases h7 : x.e.kind = 7
      · rw [if_pos h7, if_pos h7]
        obtain ⟨h8, -⟩ := ev_trunc hz h7
        refine (recput7_any x ver N g c ps w hx hs hwk hc h7 hz h8.2 ht.r hv).mono fun e w' h => ?_
        obtain ⟨v', rfl, h1, h2⟩ := h
        obtain ⟨a', c', rfl⟩ := h1.shape
        exact ⟨a', c', none, 0, rfl, h1, Sl.none0 _ _, h2⟩
      · rw [if_neg h7, if_neg h7]
        obtain ⟨r, hg, hok⟩ := ev_ok hz h7 hwk.old
        rw [colsOf_some hg]
        refine (recputr_any x ver r N g c ps w hx hs hwk hc hz hg hok ht.b ht.a ht.at_ hv).mono fun e w' h => ?_
        obtain ⟨v', a', c', rfl, h1, h2, h3⟩ := h
        obtain ⟨a2, c2, rfl⟩ := h1.shape
        exact ⟨a2, c2, a', c', rfl, h1, h2, h3⟩
    · rw [if_neg hz, if_neg hz]
      exact recpute_any x ver N g c ps w hx hs hwk hc hz hv
  · have hE : recE x.e (ps.map RR.r) ver = 18 := by unfold recE; rw [if_neg hv]
    rw [hE, if_neg (by decide), if_neg (by decide)]
    exact recputv_any x ver g w hv h0

end Go.Proofs.YtlobghojjfkchaaGreat

/-
How long a record may be: plain.
-/
namespace Go.Proofs.YtlobghojjfkchaaGreat
open Go.RowKit

theorem recB_none {e : Ev} {l : List Rl} {ver : Int} (h : recE e l ver ≠ 0) : recB e l ver = [] ∧ recT e l ver = [] := by unfold recB recT; rw [if_neg h, if_neg h]; exact ⟨rfl, rfl⟩
theorem recE_zero {e : Ev} {l : List Rl} {ver : Int} (h : recE e l ver = 0) : (ver = 1 ∨ ver = 2) ∧ evE e l = 0 := by
  unfold recE at h
  split at h
  · rename_i hv; exact ⟨hv, h⟩
  · cases h
theorem pcs_256 {s x : ByteArray} (h : x ∈ pcs s) : 1 ≤ x.size ∧ x.size ≤ 256 := by
  have h1 : x.size ∈ lens1 s.size := by rw [← pcs_sizes]; exact List.mem_map_of_mem h
  unfold lens1 at h1
  rw [List.mem_map] at h1
  obtain ⟨i, hi, h2⟩ := h1
  rw [List.mem_range] at hi
  have h3 := lenAt_pos hi
  have h4 : lenAt s.size i ≤ 256 := by unfold lenAt; omega
  omega
theorem split_256 : ∀ {ts : List ByteArray} {x : ByteArray}, x ∈ splitL ts → 1 ≤ x.size ∧ x.size ≤ 256
  | [], x, h => by cases h
  | s :: ts, x, h => by
    rw [splitL_cons] at h
    rcases List.mem_append.1 h with h | h
    · exact pcs_256 h
    · exact split_256 h
theorem recB_short {e : Ev} {l : List Rl} {ver : Int} (hw : e.wk) (ht : e.tw) : (recB e l ver).length ≤ 4096 := by
  by_cases hz : recE e l ver = 0
  · unfold recB
    rw [if_pos hz]
    obtain ⟨hv, hE⟩ := recE_zero hz
    unfold recPay
    by_cases h7 : e.kind = 7
    · rw [if_pos h7]
      obtain ⟨h8, -⟩ := ev_trunc hE h7
      have h1 := refsBy_len ht.r
      have h2 : (sevens e.rs.length).length ≤ 10 := sevens_len10 (by have : (2 : Nat) ^ 64 = 18446744073709551616 := by decide
                                                                     omega)
      rw [List.length_append, List.length_cons]
      omega
    · rw [if_neg h7]
      obtain ⟨r, hg, hok⟩ := ev_ok hE h7 hw.old
      rw [colsOf_some hg]
      have h1 := evHead_len ht.at_
      have hb : (imgPay e.b r.cols ver).length ≤ 1154 := by
        unfold imgPay
        by_cases h0 : e.b = []
        · rw [if_pos h0]; simp
        · rw [if_neg h0]; exact rowPut_short (hok.b (fun h => h0 (hok.b0 h))) hv ht.b
      have ha : (imgPay e.a r.cols ver).length ≤ 1154 := by
        unfold imgPay
        by_cases h0 : e.a = []
        · rw [if_pos h0]; simp
        · rw [if_neg h0]; exact rowPut_short (hok.a (fun h => h0 (hok.a6 h))) hv ht.a
      unfold evPay
      rw [List.length_append, List.length_append]
      omega
  · rw [(recB_none hz).1]; simp
theorem recT_256 {e : Ev} {l : List Rl} {ver : Int} {s : ByteArray} (h : s ∈ recT e l ver) : 1 ≤ s.size ∧ s.size ≤ 256 := by
  unfold recT recTx at h
  split at h
  · split at h
    · cases h
    · exact split_256 h
  · cases h
theorem recT_len {e : Ev} {l : List Rl} {ver : Int} (hw : e.wk) : (recT e l ver).length ≤ 256 := by
  by_cases hz : recE e l ver = 0
  · unfold recT recTx
    rw [if_pos hz]
    obtain ⟨hv, hE⟩ := recE_zero hz
    by_cases h7 : e.kind = 7
    · rw [if_pos h7]; simp
    · rw [if_neg h7]
      obtain ⟨r, hg, hok⟩ := ev_ok hE h7 hw.old
      have h1 := tx_ok hok
      have h2 := split_len h1.1
      have h3 := h1.2
      omega
  · rw [(recB_none hz).2]; simp

end Go.Proofs.YtlobghojjfkchaaGreat

/-
A head whose condition grows behind a call; an operation with a guard that is on; two that may come up.
-/
namespace Go.Proofs.YtlobghojjfkchaaGreat
open Go.RowKit

section
variable {P : Program} {ops : Array Oper} {Q : Exit → Act → World → Prop} {md : Region.Mode} {S S' : World → Prop}

/-- What is shown under a condition that says more is shown under one that says less. -/
theorem wpHd_str {n : Nat} (hS : ∀ w, S' w → S w) : ∀ (f : Nat) (listed : Array Bool) (a : Act) (w : World), wpHd P md ops Q S' n f listed a w → wpHd P md ops Q S n f listed a w
  | 0, _, _, _, h => h
  | f + 1, _, _, _, ⟨h0, h⟩ => ⟨h0, fun i hi => ⟨(h i hi).1, wpOp_mono (fun _ _ h' => ⟨hS _ h'.1, wpHd_str hS f _ _ _ h'.2⟩) (h i hi).2⟩⟩

/-- Number 'i' alone may come up, its guard is on. -/
theorem wpHd_oneG {n i : Nat} {o : Oper} {f : Nat} {listed : Array Bool} {a : Act} {w : World} (hi : ops[i]? = some o) (hg : Region.wanted o (yielded ops a.tmps) = true)
    (hr : (decide (Region.ready md ops listed = [i]) && decide (i < n)) = true)
    (h : ∀ K : Act → World → Prop, Hid (∀ a' w', S w' → (S w' → wpHd P md ops Q S n f (listed.setIfInBounds i true) a' w') → K a' w') → o.wp P a w K Q) : wpHd P md ops Q S n (f + 1) listed a w := by
  simp only [Bool.and_eq_true, decide_eq_true_eq] at hr
  refine ⟨by rw [hr.1]; simp, fun j hj => ?_⟩
  rw [hr.1] at hj
  have hji : j = i := by simpa using hj
  subst hji
  refine ⟨hr.2, ?_⟩
  unfold wpOp
  simp only [hi]
  rw [if_pos hg]
  exact .inl (h _ (fun a' w' hs hk => ⟨hs, hk hs⟩))

/-- Numbers 'i' and 'j' may come up. -/
theorem wpHd_two {n i j : Nat} {o o2 : Oper} {f : Nat} {listed : Array Bool} {a : Act} {w : World} (hi : ops[i]? = some o) (hg : o.guard = none) (hj : ops[j]? = some o2) (hg2 : o2.guard = none)
    (hr : (decide (Region.ready md ops listed = [i, j]) && (decide (i < n) && decide (j < n))) = true)
    (h : ∀ K : Act → World → Prop, Hid (∀ a' w', S w' → (S w' → wpHd P md ops Q S n f (listed.setIfInBounds i true) a' w') → K a' w') → o.wp P a w K Q)
    (h2 : ∀ K : Act → World → Prop, Hid (∀ a' w', S w' → (S w' → wpHd P md ops Q S n f (listed.setIfInBounds j true) a' w') → K a' w') → o2.wp P a w K Q) : wpHd P md ops Q S n (f + 1) listed a w := by
  simp only [Bool.and_eq_true, decide_eq_true_eq] at hr
  refine ⟨by rw [hr.1]; simp, fun k hk => ?_⟩
  rw [hr.1] at hk
  simp only [List.mem_cons, List.not_mem_nil, or_false] at hk
  rcases hk with rfl | rfl
  · refine ⟨hr.2.1, ?_⟩
    unfold wpOp
    simp only [hi]
    rw [if_pos (by simp [Region.wanted, hg])]
    exact .inl (h _ (fun a' w' hs hk => ⟨hs, hk hs⟩))
  · refine ⟨hr.2.2, ?_⟩
    unfold wpOp
    simp only [hj]
    rw [if_pos (by simp [Region.wanted, hg2])]
    exact .inl (h2 _ (fun a' w' hs hk => ⟨hs, hk hs⟩))
end

theorem HG.wpHd_takeD {P : Program} {ops : Array Oper} {Q : Exit → Act → World → Prop} {md : Region.Mode} {S : World → Prop} {n i : Nat} {oi : Oper} {d : Option Tmp} {v : Value} {f : Nat} {listed : Array Bool} {a : Act} {w : World} (hi : ops[i]? = some oi) (hd : oi.dst = d)
    (hB : headB md ops n listed = true) (hf : Region.free md ops listed i = true) (hr : ((Region.ready md ops listed).contains i && decide (i < n)) = true)
    (hQ : ∀ c a w, Q (.panic c) (a.put d v) w → Q (.panic c) a w) (hy : YieldsIf P ops S oi v a) (hS : S w)
    (h : wpHd P md ops Q S n f (listed.setIfInBounds i true) (a.put d v) w) : wpHd P md ops Q S n (f + 1) listed a w := by
  subst hd
  exact wpHd_take hi hB hf hr hQ hy hS h

end Go.Proofs.YtlobghojjfkchaaGreat

/-
The awake of the laws of records.
-/
namespace Go.Proofs.YtlobghojjfkchaaGreat
open Go.RowKit HG

def aw15 : Rl := ⟨1, 2, ⟨#[116]⟩, 0, [⟨⟨#[97]⟩, 1, false⟩]⟩
theorem aw15_up : ofUp [aw15] 1 = [aw15] := by rfl
theorem aw15_ofE : ofE [aw15] = 0 := by decide
theorem aw15_ofPl : ofPl [aw15] = 1 := by decide
theorem aw15_wb : aw15.wb := ⟨by show 1 ≤ 9223372036854775807; omega, by intro c hc; simp [aw15] at hc; subst hc; show 1 ≤ 9223372036854775807; omega, by show 1 ≤ 5864062014634; omega, Int.le_refl 0⟩
theorem own_trunc15 {e : Ev} (hk : rowedB e.kind = false) : ownB e = true ↔ (rfB ⟨e.ao, e.av⟩ ⟨0, 0⟩ = true ∧ e.old = 0 ∧ e.b = [] ∧ e.a = []) := by
  unfold ownB Ev.only
  rw [if_neg (by rw [hk]; simp), evB_true, rfB_true]
  obtain ⟨k, ao, av, old, b, a, rs, fl⟩ := e
  simp only [Ev.mk.injEq, Rf.mk.injEq, true_and, and_true]
  constructor
  · rintro ⟨h1, h2, h3, h4, h5⟩; exact ⟨⟨h1, h2⟩, h3, h4, h5⟩
  · rintro ⟨⟨h1, h2⟩, h3, h4, h5⟩; exact ⟨h1, h2, h3, h4, h5⟩
theorem aw15_own (rs : List Rf) : ownB ⟨7, 0, 0, 0, [], [], rs, 0⟩ = true := (own_trunc15 (e := ⟨7, 0, 0, 0, [], [], rs, 0⟩) rfl).2 ⟨rfB_true.2 rfl, rfl, rfl, rfl⟩
theorem aw15_e : evE (⟨7, 0, 0, 0, [], [], [⟨1, 2⟩], 0⟩ : Ev) [aw15] = 0 := by
  unfold evE
  rw [if_neg (by simp only; omega), if_neg (by rw [aw15_own]; simp), if_pos rfl]
  unfold truncE
  rw [if_neg (by simp), if_neg (by
    rw [risB_true.2 (fun i h => by simp at h)]
    simp), if_neg (by decide), if_neg (by simp only; omega)]
theorem aw15_b1 : sevens 5 ++ sevens 300 = [5, 172, 2] := by rw [sevens_lt (x := 5) (by decide), sevens_ge (x := 300) (by decide), sevens_lt (by decide)]; rfl
theorem aw15_b2 : ((0 : Int) :: sevens 1) ++ refsBy [⟨1, 2⟩] = [0, 1, 1, 2] := by
  unfold refsBy
  simp only [List.map_cons, List.map_nil, List.flatten_cons, List.flatten_nil, List.append_nil]
  rw [sevens_lt (x := 1) (by decide), show Int.toNat 1 = 1 from rfl, show Int.toNat 2 = 2 from rfl, sevens_lt (x := 1) (by decide), sevens_lt (x := 2) (by decide)]; rfl

set_option maxRecDepth 100000 in set_option maxHeartbeats 8000000 in
theorem awake15_any (w : World) : Calls Tryz.prog 16 #[] w fun e w' => e = .returned (.bool true) ∧ Ext w w' := by
  have HPB := Hid.mk' (fun W => putBegin_any 5 300 W (by decide) (by decide))
  have HOF := Hid.mk' (cof_any [⟨aw15, some ⟨w.heap.size, 0, none⟩, 1⟩] (some ⟨((w.alloc (.cells #[.string ⟨#[97]⟩, .int .u8 1, .bool false] 130))).heap.size, 0, none⟩) 1 (((w.alloc (.cells #[.string ⟨#[97]⟩, .int .u8 1, .bool false] 130)).alloc (.cells #[.int .u32 1, .int .u32 2, .string ⟨#[116]⟩, .int .u8 0, .slice (some ⟨w.heap.size, 0, none⟩) 1 1] 112)))
    ⟨Sl.new ((w.alloc (.cells #[.string ⟨#[97]⟩, .int .u8 1, .bool false] 130))) #[.int .u32 1, .int .u32 2, .string ⟨#[116]⟩, .int .u8 0, .slice (some ⟨w.heap.size, 0, none⟩) 1 1] 112 5 1 1 _ rfl (RR.len _) rfl, fun p hp => by simp at hp; subst hp; exact (((Sl.new w #[.string ⟨#[97]⟩, .int .u8 1, .bool false] 130 3 1 1 [[.string ⟨#[97]⟩, .int .u8 1, .bool false]] rfl (by intro xs hxs; simp at hxs; subst hxs; rfl) rfl)).ext ((Ext.refl _).alloc _))⟩
    (fun p hp => by simp at hp; subst hp; exact Nat.le_refl _) (fun p hp => by simp at hp; subst hp; exact aw15_wb) (by simp))
  unfold COfPost at HOF
  simp only [World.size_alloc, List.map_cons, List.map_nil, List.length_cons, List.length_nil, Nat.zero_add, aw15_ofE, aw15_ofPl, aw15_up] at HOF
  go_enter Tryz.func16, Tryz.ntmps16
  go_upto_region 4 with (go_at_call 40; refine HOF.out.mono ?_; rintro e w1 ⟨pv, rfl, h1, -, hb1⟩; obtain ⟨rfl, c, qs, hc, hq⟩ := h1 (by first | exact rfl | exact trivial); have HC := Hid.mk' hc; have HQ := Hid.mk' hq; have HB1 := Hid.mk' (show Ext w w1 from (((Ext.refl w).alloc _).alloc _).trans hb1); clear h1 hc hq hb1)
  have HCD : Hid (Ca ((w1.alloc (.cells #[.int .u32 1, .int .u32 2] 45))) _ _ c qs) := Hid.mk' (HC.out.ext ((Ext.refl _).alloc _))
  have HAT : Hid (EL.at 5 K.pc ((w1.alloc (.cells #[.int .u32 1, .int .u32 2] 45))) ⟨(⟨7, 0, 0, 0, [], [], [⟨1, 2⟩], 0⟩ : Ev), none, 0, none, 0, some ⟨w1.heap.size, 0, none⟩, 1⟩) := Hid.mk' ⟨nilRowP _, nilRowP _, Sl.new w1 #[.int .u32 1, .int .u32 2] 45 2 1 1 (([⟨1, 2⟩] : List Rf).map Rf.cells) rfl (by intro xs hxs; simp at hxs; subst hxs; rfl) rfl⟩
  have HPUT := Hid.mk' (recput7_any _ 1 _ _ c qs _ HAT.out ⟨Nat.zero_le _, Nat.zero_le _, show 1 ≤ 1000 by omega⟩ ⟨(fun c hc => by cases hc), (fun c hc => by cases hc), Int.le_refl 0⟩ HCD.out rfl (by rw [HQ.out]; exact aw15_e) (show 1 ≤ 8 by omega) (fun r hr => by simp at hr; subst hr; exact ⟨by decide, by decide⟩) (.inl rfl))
  have HEW : Hid (Ext w ((w1.alloc (.cells #[.int .u32 1, .int .u32 2] 45)))) := Hid.mk' (HB1.out.alloc _)
  unfold EL.agg at HPUT
  simp only [List.length_nil, List.length_cons, Nat.zero_add] at HPUT
  clear HCD HAT HQ HC HOF HB1
  go_upto_region 5 with (go_at_call 12; refine HPUT.out.mono ?_; rintro e w5 ⟨v5, rfl, ho5, hb5⟩; have HO5 := Hid.mk' ho5; have HE5 := Hid.mk' (HEW.out.trans hb5); clear ho5 hb5)
  rw [aw15_b2] at HO5
  obtain ⟨SA, hSA⟩ : ∃ S, S = strOfNums (sevens 5 ++ sevens 300) := ⟨_, rfl⟩
  obtain ⟨SB, hSB⟩ : ∃ S, S = strOfNums [0, 1, 1, 2] := ⟨_, rfl⟩
  have HSA := Hid.mk' hSA
  have HSA3 : Hid (SA = strOfNums [5, 172, 2]) := Hid.mk' (by rw [hSA, aw15_b1])
  have HSB := Hid.mk' hSB
  clear hSA hSB HPUT HEW
  refine wp_region_head 21 (fun w' => Ext w5 w' ∧ (convert 40 9 v5).run Tryz.prog w' = .ok (.string SB) w') (by kernel_rfl) (by decide) ?_
  have hA0 : Hid ((fun w' => Ext w5 w' ∧ (convert 40 9 v5).run Tryz.prog w' = .ok (.string SB) w') w5.drew) := Hid.mk' ⟨(Ext.refl w5).drew, by rw [HSB.out]; exact conv_Sl (HO5.out.sl.ext (Ext.refl w5).drew)⟩
  refine wpHd_two (i := 0) (j := 2) rfl rfl rfl rfl (by kernel_rfl) (fun KK hK => ?_) (fun KK hK => ?_)
  · go_simp
    refine (HPB.out _).mono ?_
    rintro e w6 ⟨v6, rfl, ho6, hb6⟩
    have HO6 := Hid.mk' ho6
    have HE6 : Hid (Ext w5 w6) := Hid.mk' ((Ext.refl w5).drew.trans hb6)
    have HZ0 : Hid (∀ W, Ext w6 W → (fun w' => Ext w5 w' ∧ (convert 40 9 v5).run Tryz.prog w' = .ok (.string SB) w') W) := Hid.mk' (fun W h => ⟨HE6.out.trans h, by rw [HSB.out]; exact conv_Sl (HO5.out.sl.ext (HE6.out.trans h))⟩)
    refine hK.out _ _ (HZ0.out _ (Ext.refl _)) (fun hA => ?_)
    clear hK KK hA hA0 ho6 hb6
    have HZ1 : Hid (∀ W, Ext w6 W → (fun w' => (Ext w5 w' ∧ (convert 40 9 v5).run Tryz.prog w' = .ok (.string SB) w') ∧ (convert 40 9 v6).run Tryz.prog w' = .ok (.string SA) w') W) := Hid.mk' (fun W h => ⟨HZ0.out _ h, by rw [HSA.out]; exact conv_Sl (HO6.out.sl.ext h)⟩)
    have hA1 : Hid ((fun w' => (Ext w5 w' ∧ (convert 40 9 v5).run Tryz.prog w' = .ok (.string SB) w') ∧ (convert 40 9 v6).run Tryz.prog w' = .ok (.string SA) w') w6) := Hid.mk' (HZ1.out _ (Ext.refl _))
    refine wpHd_str (S' := (fun w' => (Ext w5 w' ∧ (convert 40 9 v5).run Tryz.prog w' = .ok (.string SB) w') ∧ (convert 40 9 v6).run Tryz.prog w' = .ok (.string SA) w')) (fun w' h => h.1) _ _ _ _ ?_
    (refine wpHd_takeD (i := 1) (d := some 29) (v := ?_) rfl rfl (by kernel_rfl) (by kernel_rfl) (by kernel_rfl) (fun _ _ _ h => h) (Or.inl ⟨by rfl, ?_⟩) hA1.out ?_; rotate_left 1; (· intro w' hS'; have hc' := hS'.2; go_simp; try with_reducible rfl))
    try simp only [Act.put, List.setIfInBounds_toArray, List.set_cons_zero, List.set_cons_succ]
    refine wpHd_one (i := 2) rfl rfl (by kernel_rfl) (fun KK hK => ?_)
    go_simp
    refine hK.out _ _ (HZ1.out _ ((Ext.refl _).alloc _)) (fun hA => ?_)
    clear hK KK hA hA1
    have HF := Hid.mk' (fresh_bytes w6 [5, 172, 2] 3 rfl)
    have HZ2 : Hid (∀ W, Ext (w6.alloc (.cells #[.int .u8 5, .int .u8 172, .int .u8 2] 5)) W → (fun w' => ((Ext w5 w' ∧ (convert 40 9 v5).run Tryz.prog w' = .ok (.string SB) w') ∧ (convert 40 9 v6).run Tryz.prog w' = .ok (.string SA) w') ∧ (convert 40 9 (.slice (some ⟨w6.heap.size, 0, none⟩) 3 3)).run Tryz.prog w' = .ok (.string SA) w') W) := Hid.mk' (fun W h => ⟨HZ1.out _ (((Ext.refl w6).alloc _).trans h), by rw [HSA3.out]; exact conv_Sl (HF.out.ext h)⟩)
    obtain ⟨wz, hwz⟩ : ∃ x, x = w6.alloc (.cells #[.int .u8 5, .int .u8 172, .int .u8 2] 5) := ⟨_, rfl⟩
    rw [← hwz] at HZ2 ⊢
    clear hwz HF
    have hA2 : Hid ((fun w' => ((Ext w5 w' ∧ (convert 40 9 v5).run Tryz.prog w' = .ok (.string SB) w') ∧ (convert 40 9 v6).run Tryz.prog w' = .ok (.string SA) w') ∧ (convert 40 9 (.slice (some ⟨w6.heap.size, 0, none⟩) 3 3)).run Tryz.prog w' = .ok (.string SA) w') wz) := Hid.mk' (HZ2.out _ (Ext.refl _))
    refine wpHd_str (S' := (fun w' => ((Ext w5 w' ∧ (convert 40 9 v5).run Tryz.prog w' = .ok (.string SB) w') ∧ (convert 40 9 v6).run Tryz.prog w' = .ok (.string SA) w') ∧ (convert 40 9 (.slice (some ⟨w6.heap.size, 0, none⟩) 3 3)).run Tryz.prog w' = .ok (.string SA) w')) (fun w' h => h.1) _ _ _ _ ?_
    (refine wpHd_takeD (i := 3) (d := some 31) (v := ?_) rfl rfl (by kernel_rfl) (by kernel_rfl) (by kernel_rfl) (fun _ _ _ h => h) (Or.inl ⟨by rfl, ?_⟩) hA2.out ?_; rotate_left 1; (· intro w' hS'; have hc' := hS'.2; go_simp; try with_reducible rfl))
    try simp only [Act.put, List.setIfInBounds_toArray, List.set_cons_zero, List.set_cons_succ]
    (refine wpHd_takeD (i := 4) (d := some 32) (v := ?_) rfl rfl (by kernel_rfl) (by kernel_rfl) (by kernel_rfl) (fun _ _ _ h => h) (Or.inl ⟨by rfl, ?_⟩) hA2.out ?_; rotate_left 1; (· intro w' hS'; clear hS'; go_simp; try with_reducible rfl))
    try simp only [Act.put, List.setIfInBounds_toArray, List.set_cons_zero, List.set_cons_succ]
    (refine wpHd_takeD (i := 5) (d := some 33) (v := ?_) rfl rfl (by kernel_rfl) (by kernel_rfl) (by kernel_rfl) (fun _ _ _ h => h) (Or.inl ⟨by rfl, ?_⟩) hA2.out ?_; rotate_left 1; (· intro w' hS'; clear hS'; go_simp; try with_reducible rfl))
    try simp only [Act.put, List.setIfInBounds_toArray, List.set_cons_zero, List.set_cons_succ]
    (refine wpHd_takeD (i := 6) (d := some 34) (v := ?_) rfl rfl (by kernel_rfl) (by kernel_rfl) (by kernel_rfl) (fun _ _ _ h => h) (Or.inl ⟨by rfl, ?_⟩) hA2.out ?_; rotate_left 1; (· intro w' hS'; clear hS'; go_simp; try with_reducible rfl))
    try simp only [Act.put, List.setIfInBounds_toArray, List.set_cons_zero, List.set_cons_succ]
    (refine wpHd_takeD (i := 7) (d := some 35) (v := ?_) rfl rfl (by kernel_rfl) (by kernel_rfl) (by kernel_rfl) (fun _ _ _ h => h) (Or.inl ⟨by rfl, ?_⟩) hA2.out ?_; rotate_left 1; (· intro w' hS'; clear hS'; go_simp; try with_reducible rfl))
    try simp only [Act.put, List.setIfInBounds_toArray, List.set_cons_zero, List.set_cons_succ]
    (refine wpHd_takeD (i := 8) (d := some 36) (v := ?_) rfl rfl (by kernel_rfl) (by kernel_rfl) (by kernel_rfl) (fun _ _ _ h => h) (Or.inl ⟨by rfl, ?_⟩) hA2.out ?_; rotate_left 1; (· intro w' hS'; clear hS'; go_simp; try with_reducible rfl))
    try simp only [Act.put, List.setIfInBounds_toArray, List.set_cons_zero, List.set_cons_succ]
    (refine wpHd_takeD (i := 9) (d := some 37) (v := ?_) rfl rfl (by kernel_rfl) (by kernel_rfl) (by kernel_rfl) (fun _ _ _ h => h) (Or.inl ⟨by rfl, ?_⟩) hA2.out ?_; rotate_left 1; (· intro w' hS'; clear hS'; go_simp; try with_reducible rfl))
    try simp only [Act.put, List.setIfInBounds_toArray, List.set_cons_zero, List.set_cons_succ]
    (refine wpHd_takeD (i := 10) (d := some 38) (v := ?_) rfl rfl (by kernel_rfl) (by kernel_rfl) (by kernel_rfl) (fun _ _ _ h => h) (Or.inl ⟨by rfl, ?_⟩) hA2.out ?_; rotate_left 1; (· intro w' hS'; clear hS'; go_simp; try with_reducible rfl))
    try simp only [Act.put, List.setIfInBounds_toArray, List.set_cons_zero, List.set_cons_succ]
    (refine wpHd_takeD (i := 11) (d := some 39) (v := ?_) rfl rfl (by kernel_rfl) (by kernel_rfl) (by kernel_rfl) (fun _ _ _ h => h) (Or.inl ⟨by rfl, ?_⟩) hA2.out ?_; rotate_left 1; (· intro w' hS'; clear hS'; go_simp; try with_reducible rfl))
    try simp only [Act.put, List.setIfInBounds_toArray, List.set_cons_zero, List.set_cons_succ]
    (refine wpHd_takeD (i := 12) (d := some 40) (v := ?_) rfl rfl (by kernel_rfl) (by kernel_rfl) (by kernel_rfl) (fun _ _ _ h => h) (Or.inl ⟨by rfl, ?_⟩) hA2.out ?_; rotate_left 1; (· intro w' hS'; clear hS'; go_simp; try with_reducible rfl))
    try simp only [Act.put, List.setIfInBounds_toArray, List.set_cons_zero, List.set_cons_succ]
    (refine wpHd_takeD (i := 13) (d := some 41) (v := ?_) rfl rfl (by kernel_rfl) (by kernel_rfl) (by kernel_rfl) (fun _ _ _ h => h) (Or.inl ⟨by rfl, ?_⟩) hA2.out ?_; rotate_left 1; (· intro w' hS'; clear hS'; go_simp; try with_reducible rfl))
    try simp only [Act.put, List.setIfInBounds_toArray, List.set_cons_zero, List.set_cons_succ]
    (refine wpHd_takeD (i := 14) (d := some 42) (v := ?_) rfl rfl (by kernel_rfl) (by kernel_rfl) (by kernel_rfl) (fun _ _ _ h => h) (Or.inl ⟨by rfl, ?_⟩) hA2.out ?_; rotate_left 1; (· intro w' hS'; clear hS'; go_simp; try with_reducible rfl))
    try simp only [Act.put, List.setIfInBounds_toArray, List.set_cons_zero, List.set_cons_succ]
    (refine wpHd_takeD (i := 15) (d := some 43) (v := ?_) rfl rfl (by kernel_rfl) (by kernel_rfl) (by kernel_rfl) (fun _ _ _ h => h) (Or.inl ⟨by rfl, ?_⟩) hA2.out ?_; rotate_left 1; (· intro w' hS'; clear hS'; go_simp; try with_reducible rfl))
    try simp only [Act.put, List.setIfInBounds_toArray, List.set_cons_zero, List.set_cons_succ]
    (refine wpHd_takeD (i := 16) (d := some 44) (v := ?_) rfl rfl (by kernel_rfl) (by kernel_rfl) (by kernel_rfl) (fun _ _ _ h => h) (Or.inl ⟨by rfl, ?_⟩) hA2.out ?_; rotate_left 1; (· intro w' hS'; have hc' := hS'.1.1.2; go_simp; try with_reducible rfl))
    try simp only [Act.put, List.setIfInBounds_toArray, List.set_cons_zero, List.set_cons_succ]
    refine wpHd_oneG (i := 17) rfl (by rfl) (by kernel_rfl) (fun KK hK => ?_)
    go_simp
    have hB3 : Hid ((fun w' => ((Ext w5 w' ∧ (convert 40 9 v5).run Tryz.prog w' = .ok (.string SB) w') ∧ (convert 40 9 v6).run Tryz.prog w' = .ok (.string SA) w') ∧ (convert 40 9 (.slice (some ⟨w6.heap.size, 0, none⟩) 3 3)).run Tryz.prog w' = .ok (.string SA) w') (wz.alloc (.cells #[.int .u8 0, .int .u8 1, .int .u8 1, .int .u8 2] 5))) := Hid.mk' (HZ2.out _ ((Ext.refl wz).alloc _))
    refine hK.out _ _ hB3.out (fun hA => ?_)
    clear hK KK hA hA2
    have hA3 : Hid ((fun w' => (((Ext w5 w' ∧ (convert 40 9 v5).run Tryz.prog w' = .ok (.string SB) w') ∧ (convert 40 9 v6).run Tryz.prog w' = .ok (.string SA) w') ∧ (convert 40 9 (.slice (some ⟨w6.heap.size, 0, none⟩) 3 3)).run Tryz.prog w' = .ok (.string SA) w') ∧ (convert 40 9 (.slice (some ⟨wz.heap.size, 0, none⟩) 4 4)).run Tryz.prog w' = .ok (.string SB) w') (wz.alloc (.cells #[.int .u8 0, .int .u8 1, .int .u8 1, .int .u8 2] 5))) := Hid.mk' ⟨hB3.out, by rw [HSB.out]; exact conv_Sl (fresh_bytes wz [0, 1, 1, 2] 4 rfl)⟩
    have HEZ : Hid (Ext w5 (wz.alloc (.cells #[.int .u8 0, .int .u8 1, .int .u8 1, .int .u8 2] 5))) := Hid.mk' hB3.out.1.1.1
    clear hB3
    refine wpHd_str (S' := (fun w' => (((Ext w5 w' ∧ (convert 40 9 v5).run Tryz.prog w' = .ok (.string SB) w') ∧ (convert 40 9 v6).run Tryz.prog w' = .ok (.string SA) w') ∧ (convert 40 9 (.slice (some ⟨w6.heap.size, 0, none⟩) 3 3)).run Tryz.prog w' = .ok (.string SA) w') ∧ (convert 40 9 (.slice (some ⟨wz.heap.size, 0, none⟩) 4 4)).run Tryz.prog w' = .ok (.string SB) w')) (fun w' h => h.1) _ _ _ _ ?_
    (refine wpHd_takeD (i := 18) (d := some 46) (v := ?_) rfl rfl (by kernel_rfl) (by kernel_rfl) (by kernel_rfl) (fun _ _ _ h => h) (Or.inl ⟨by rfl, ?_⟩) hA3.out ?_; rotate_left 1; (· intro w' hS'; have hc' := hS'.2; go_simp; try with_reducible rfl))
    try simp only [Act.put, List.setIfInBounds_toArray, List.set_cons_zero, List.set_cons_succ]
    (refine wpHd_takeD (i := 19) (d := some 47) (v := ?_) rfl rfl (by kernel_rfl) (by kernel_rfl) (by kernel_rfl) (fun _ _ _ h => h) (Or.inl ⟨by rfl, ?_⟩) hA3.out ?_; rotate_left 1; (· intro w' hS'; clear hS'; go_simp; try with_reducible rfl))
    try simp only [Act.put, List.setIfInBounds_toArray, List.set_cons_zero, List.set_cons_succ]
    (refine wpHd_takeD (i := 20) (d := some 48) (v := ?_) rfl rfl (by kernel_rfl) (by kernel_rfl) (by kernel_rfl) (fun _ _ _ h => h) (Or.inl ⟨by rfl, ?_⟩) hA3.out ?_; rotate_left 1; (· intro w' hS'; clear hS'; go_simp; try with_reducible rfl))
    try simp only [Act.put, List.setIfInBounds_toArray, List.set_cons_zero, List.set_cons_succ]
    refine wpHd_tail (by kernel_rfl) ?_
    simp only [List.drop_succ_cons, List.drop_zero]
    clear hA3
    go_wp2
    go_ret
    exact ⟨rfl, HE5.out.trans HEZ.out⟩
  · go_simp
    have HZ0 : Hid (∀ W, Ext w5 W → (fun w' => Ext w5 w' ∧ (convert 40 9 v5).run Tryz.prog w' = .ok (.string SB) w') W) := Hid.mk' (fun W h => ⟨h, by rw [HSB.out]; exact conv_Sl (HO5.out.sl.ext h)⟩)
    refine hK.out _ _ (HZ0.out _ (by exact eX)) (fun hA => ?_)
    clear hK KK hA hA0
    have HF : Hid (Sl (w5.drew.alloc (.cells #[.int .u8 5, .int .u8 172, .int .u8 2] 5)) (.slice (some ⟨w5.heap.size, 0, none⟩) 3 3) 1 ([5, 172, 2].map bcell)) := Hid.mk' (fresh_bytes w5.drew [5, 172, 2] 3 rfl)
    have HD : Hid (Ext w5 (w5.drew.alloc (.cells #[.int .u8 5, .int .u8 172, .int .u8 2] 5))) := Hid.mk' (by exact eX)
    have HZ1 : Hid (∀ W, Ext (w5.drew.alloc (.cells #[.int .u8 5, .int .u8 172, .int .u8 2] 5)) W → (fun w' => (Ext w5 w' ∧ (convert 40 9 v5).run Tryz.prog w' = .ok (.string SB) w') ∧ (convert 40 9 (.slice (some ⟨w5.heap.size, 0, none⟩) 3 3)).run Tryz.prog w' = .ok (.string SA) w') W) := Hid.mk' (fun W h => ⟨HZ0.out _ (HD.out.trans h), by rw [HSA3.out]; exact conv_Sl (HF.out.ext h)⟩)
    have hA1 : Hid ((fun w' => (Ext w5 w' ∧ (convert 40 9 v5).run Tryz.prog w' = .ok (.string SB) w') ∧ (convert 40 9 (.slice (some ⟨w5.heap.size, 0, none⟩) 3 3)).run Tryz.prog w' = .ok (.string SA) w') (w5.drew.alloc (.cells #[.int .u8 5, .int .u8 172, .int .u8 2] 5))) := Hid.mk' (HZ1.out _ (Ext.refl _))
    refine wpHd_str (S' := (fun w' => (Ext w5 w' ∧ (convert 40 9 v5).run Tryz.prog w' = .ok (.string SB) w') ∧ (convert 40 9 (.slice (some ⟨w5.heap.size, 0, none⟩) 3 3)).run Tryz.prog w' = .ok (.string SA) w')) (fun w' h => h.1) _ _ _ _ ?_
    (refine wpHd_takeD (i := 3) (d := some 31) (v := ?_) rfl rfl (by kernel_rfl) (by kernel_rfl) (by kernel_rfl) (fun _ _ _ h => h) (Or.inl ⟨by rfl, ?_⟩) hA1.out ?_; rotate_left 1; (· intro w' hS'; have hc' := hS'.2; go_simp; try with_reducible rfl))
    try simp only [Act.put, List.setIfInBounds_toArray, List.set_cons_zero, List.set_cons_succ]
    refine wpHd_one (i := 0) rfl rfl (by kernel_rfl) (fun KK hK => ?_)
    go_simp
    refine (HPB.out _).mono ?_
    rintro e wz ⟨v6, rfl, ho6, hb6⟩
    have HO6 := Hid.mk' ho6
    have HE6 : Hid (Ext (w5.drew.alloc (.cells #[.int .u8 5, .int .u8 172, .int .u8 2] 5)) wz) := Hid.mk' (by first | exact hb6 | exact (Ext.refl _).trans hb6)
    refine hK.out _ _ (HZ1.out _ HE6.out) (fun hA => ?_)
    clear hK KK hA hA1 ho6 hb6
    have HZ2 : Hid (∀ W, Ext wz W → (fun w' => ((Ext w5 w' ∧ (convert 40 9 v5).run Tryz.prog w' = .ok (.string SB) w') ∧ (convert 40 9 (.slice (some ⟨w5.heap.size, 0, none⟩) 3 3)).run Tryz.prog w' = .ok (.string SA) w') ∧ (convert 40 9 v6).run Tryz.prog w' = .ok (.string SA) w') W) := Hid.mk' (fun W h => ⟨HZ1.out _ (HE6.out.trans h), by rw [HSA.out]; exact conv_Sl (HO6.out.sl.ext h)⟩)
    have hA2 : Hid ((fun w' => ((Ext w5 w' ∧ (convert 40 9 v5).run Tryz.prog w' = .ok (.string SB) w') ∧ (convert 40 9 (.slice (some ⟨w5.heap.size, 0, none⟩) 3 3)).run Tryz.prog w' = .ok (.string SA) w') ∧ (convert 40 9 v6).run Tryz.prog w' = .ok (.string SA) w') wz) := Hid.mk' (HZ2.out _ (Ext.refl _))
    refine wpHd_str (S' := (fun w' => ((Ext w5 w' ∧ (convert 40 9 v5).run Tryz.prog w' = .ok (.string SB) w') ∧ (convert 40 9 (.slice (some ⟨w5.heap.size, 0, none⟩) 3 3)).run Tryz.prog w' = .ok (.string SA) w') ∧ (convert 40 9 v6).run Tryz.prog w' = .ok (.string SA) w')) (fun w' h => h.1) _ _ _ _ ?_
    (refine wpHd_takeD (i := 1) (d := some 29) (v := ?_) rfl rfl (by kernel_rfl) (by kernel_rfl) (by kernel_rfl) (fun _ _ _ h => h) (Or.inl ⟨by rfl, ?_⟩) hA2.out ?_; rotate_left 1; (· intro w' hS'; have hc' := hS'.2; go_simp; try with_reducible rfl))
    try simp only [Act.put, List.setIfInBounds_toArray, List.set_cons_zero, List.set_cons_succ]
    (refine wpHd_takeD (i := 4) (d := some 32) (v := ?_) rfl rfl (by kernel_rfl) (by kernel_rfl) (by kernel_rfl) (fun _ _ _ h => h) (Or.inl ⟨by rfl, ?_⟩) hA2.out ?_; rotate_left 1; (· intro w' hS'; clear hS'; go_simp; try with_reducible rfl))
    try simp only [Act.put, List.setIfInBounds_toArray, List.set_cons_zero, List.set_cons_succ]
    (refine wpHd_takeD (i := 5) (d := some 33) (v := ?_) rfl rfl (by kernel_rfl) (by kernel_rfl) (by kernel_rfl) (fun _ _ _ h => h) (Or.inl ⟨by rfl, ?_⟩) hA2.out ?_; rotate_left 1; (· intro w' hS'; clear hS'; go_simp; try with_reducible rfl))
    try simp only [Act.put, List.setIfInBounds_toArray, List.set_cons_zero, List.set_cons_succ]
    (refine wpHd_takeD (i := 6) (d := some 34) (v := ?_) rfl rfl (by kernel_rfl) (by kernel_rfl) (by kernel_rfl) (fun _ _ _ h => h) (Or.inl ⟨by rfl, ?_⟩) hA2.out ?_; rotate_left 1; (· intro w' hS'; clear hS'; go_simp; try with_reducible rfl))
    try simp only [Act.put, List.setIfInBounds_toArray, List.set_cons_zero, List.set_cons_succ]
    (refine wpHd_takeD (i := 7) (d := some 35) (v := ?_) rfl rfl (by kernel_rfl) (by kernel_rfl) (by kernel_rfl) (fun _ _ _ h => h) (Or.inl ⟨by rfl, ?_⟩) hA2.out ?_; rotate_left 1; (· intro w' hS'; clear hS'; go_simp; try with_reducible rfl))
    try simp only [Act.put, List.setIfInBounds_toArray, List.set_cons_zero, List.set_cons_succ]
    (refine wpHd_takeD (i := 8) (d := some 36) (v := ?_) rfl rfl (by kernel_rfl) (by kernel_rfl) (by kernel_rfl) (fun _ _ _ h => h) (Or.inl ⟨by rfl, ?_⟩) hA2.out ?_; rotate_left 1; (· intro w' hS'; clear hS'; go_simp; try with_reducible rfl))
    try simp only [Act.put, List.setIfInBounds_toArray, List.set_cons_zero, List.set_cons_succ]
    (refine wpHd_takeD (i := 9) (d := some 37) (v := ?_) rfl rfl (by kernel_rfl) (by kernel_rfl) (by kernel_rfl) (fun _ _ _ h => h) (Or.inl ⟨by rfl, ?_⟩) hA2.out ?_; rotate_left 1; (· intro w' hS'; clear hS'; go_simp; try with_reducible rfl))
    try simp only [Act.put, List.setIfInBounds_toArray, List.set_cons_zero, List.set_cons_succ]
    (refine wpHd_takeD (i := 10) (d := some 38) (v := ?_) rfl rfl (by kernel_rfl) (by kernel_rfl) (by kernel_rfl) (fun _ _ _ h => h) (Or.inl ⟨by rfl, ?_⟩) hA2.out ?_; rotate_left 1; (· intro w' hS'; clear hS'; go_simp; try with_reducible rfl))
    try simp only [Act.put, List.setIfInBounds_toArray, List.set_cons_zero, List.set_cons_succ]
    (refine wpHd_takeD (i := 11) (d := some 39) (v := ?_) rfl rfl (by kernel_rfl) (by kernel_rfl) (by kernel_rfl) (fun _ _ _ h => h) (Or.inl ⟨by rfl, ?_⟩) hA2.out ?_; rotate_left 1; (· intro w' hS'; clear hS'; go_simp; try with_reducible rfl))
    try simp only [Act.put, List.setIfInBounds_toArray, List.set_cons_zero, List.set_cons_succ]
    (refine wpHd_takeD (i := 12) (d := some 40) (v := ?_) rfl rfl (by kernel_rfl) (by kernel_rfl) (by kernel_rfl) (fun _ _ _ h => h) (Or.inl ⟨by rfl, ?_⟩) hA2.out ?_; rotate_left 1; (· intro w' hS'; clear hS'; go_simp; try with_reducible rfl))
    try simp only [Act.put, List.setIfInBounds_toArray, List.set_cons_zero, List.set_cons_succ]
    (refine wpHd_takeD (i := 13) (d := some 41) (v := ?_) rfl rfl (by kernel_rfl) (by kernel_rfl) (by kernel_rfl) (fun _ _ _ h => h) (Or.inl ⟨by rfl, ?_⟩) hA2.out ?_; rotate_left 1; (· intro w' hS'; clear hS'; go_simp; try with_reducible rfl))
    try simp only [Act.put, List.setIfInBounds_toArray, List.set_cons_zero, List.set_cons_succ]
    (refine wpHd_takeD (i := 14) (d := some 42) (v := ?_) rfl rfl (by kernel_rfl) (by kernel_rfl) (by kernel_rfl) (fun _ _ _ h => h) (Or.inl ⟨by rfl, ?_⟩) hA2.out ?_; rotate_left 1; (· intro w' hS'; clear hS'; go_simp; try with_reducible rfl))
    try simp only [Act.put, List.setIfInBounds_toArray, List.set_cons_zero, List.set_cons_succ]
    (refine wpHd_takeD (i := 15) (d := some 43) (v := ?_) rfl rfl (by kernel_rfl) (by kernel_rfl) (by kernel_rfl) (fun _ _ _ h => h) (Or.inl ⟨by rfl, ?_⟩) hA2.out ?_; rotate_left 1; (· intro w' hS'; clear hS'; go_simp; try with_reducible rfl))
    try simp only [Act.put, List.setIfInBounds_toArray, List.set_cons_zero, List.set_cons_succ]
    (refine wpHd_takeD (i := 16) (d := some 44) (v := ?_) rfl rfl (by kernel_rfl) (by kernel_rfl) (by kernel_rfl) (fun _ _ _ h => h) (Or.inl ⟨by rfl, ?_⟩) hA2.out ?_; rotate_left 1; (· intro w' hS'; have hc' := hS'.1.1.2; go_simp; try with_reducible rfl))
    try simp only [Act.put, List.setIfInBounds_toArray, List.set_cons_zero, List.set_cons_succ]
    refine wpHd_oneG (i := 17) rfl (by rfl) (by kernel_rfl) (fun KK hK => ?_)
    go_simp
    have hB3 : Hid ((fun w' => ((Ext w5 w' ∧ (convert 40 9 v5).run Tryz.prog w' = .ok (.string SB) w') ∧ (convert 40 9 (.slice (some ⟨w5.heap.size, 0, none⟩) 3 3)).run Tryz.prog w' = .ok (.string SA) w') ∧ (convert 40 9 v6).run Tryz.prog w' = .ok (.string SA) w') (wz.alloc (.cells #[.int .u8 0, .int .u8 1, .int .u8 1, .int .u8 2] 5))) := Hid.mk' (HZ2.out _ ((Ext.refl wz).alloc _))
    refine hK.out _ _ hB3.out (fun hA => ?_)
    clear hK KK hA hA2
    have hA3 : Hid ((fun w' => (((Ext w5 w' ∧ (convert 40 9 v5).run Tryz.prog w' = .ok (.string SB) w') ∧ (convert 40 9 (.slice (some ⟨w5.heap.size, 0, none⟩) 3 3)).run Tryz.prog w' = .ok (.string SA) w') ∧ (convert 40 9 v6).run Tryz.prog w' = .ok (.string SA) w') ∧ (convert 40 9 (.slice (some ⟨wz.heap.size, 0, none⟩) 4 4)).run Tryz.prog w' = .ok (.string SB) w') (wz.alloc (.cells #[.int .u8 0, .int .u8 1, .int .u8 1, .int .u8 2] 5))) := Hid.mk' ⟨hB3.out, by rw [HSB.out]; exact conv_Sl (fresh_bytes wz [0, 1, 1, 2] 4 rfl)⟩
    have HEZ : Hid (Ext w5 (wz.alloc (.cells #[.int .u8 0, .int .u8 1, .int .u8 1, .int .u8 2] 5))) := Hid.mk' hB3.out.1.1.1
    clear hB3
    refine wpHd_str (S' := (fun w' => (((Ext w5 w' ∧ (convert 40 9 v5).run Tryz.prog w' = .ok (.string SB) w') ∧ (convert 40 9 (.slice (some ⟨w5.heap.size, 0, none⟩) 3 3)).run Tryz.prog w' = .ok (.string SA) w') ∧ (convert 40 9 v6).run Tryz.prog w' = .ok (.string SA) w') ∧ (convert 40 9 (.slice (some ⟨wz.heap.size, 0, none⟩) 4 4)).run Tryz.prog w' = .ok (.string SB) w')) (fun w' h => h.1) _ _ _ _ ?_
    (refine wpHd_takeD (i := 18) (d := some 46) (v := ?_) rfl rfl (by kernel_rfl) (by kernel_rfl) (by kernel_rfl) (fun _ _ _ h => h) (Or.inl ⟨by rfl, ?_⟩) hA3.out ?_; rotate_left 1; (· intro w' hS'; have hc' := hS'.2; go_simp; try with_reducible rfl))
    try simp only [Act.put, List.setIfInBounds_toArray, List.set_cons_zero, List.set_cons_succ]
    (refine wpHd_takeD (i := 19) (d := some 47) (v := ?_) rfl rfl (by kernel_rfl) (by kernel_rfl) (by kernel_rfl) (fun _ _ _ h => h) (Or.inl ⟨by rfl, ?_⟩) hA3.out ?_; rotate_left 1; (· intro w' hS'; clear hS'; go_simp; try with_reducible rfl))
    try simp only [Act.put, List.setIfInBounds_toArray, List.set_cons_zero, List.set_cons_succ]
    (refine wpHd_takeD (i := 20) (d := some 48) (v := ?_) rfl rfl (by kernel_rfl) (by kernel_rfl) (by kernel_rfl) (fun _ _ _ h => h) (Or.inl ⟨by rfl, ?_⟩) hA3.out ?_; rotate_left 1; (· intro w' hS'; clear hS'; go_simp; try with_reducible rfl))
    try simp only [Act.put, List.setIfInBounds_toArray, List.set_cons_zero, List.set_cons_succ]
    refine wpHd_tail (by kernel_rfl) ?_
    simp only [List.drop_succ_cons, List.drop_zero]
    clear hA3
    go_wp2
    go_ret
    exact ⟨rfl, HE5.out.trans HEZ.out⟩

end Go.Proofs.YtlobghojjfkchaaGreat

/-
Does a law look at so much?
-/
namespace Go.Proofs.YtlobghojjfkchaaGreat
open Go.RowKit

def GreatK (l : List K) (cols : List Col) (nm : ByteArray) (w : World) (e : Ending) (w' : World) : Prop :=
  ∃ g : Bool, e = .returned (.bool g) ∧ (g = false → (∀ c ∈ l, c.v.s.size ≤ 3000) ∧ (∀ c ∈ cols, c.nm.size ≤ 60) ∧ l.length ≤ 20 ∧ cols.length ≤ 20 ∧ nm.size ≤ 60) ∧ Ext w w'

set_option maxRecDepth 100000 in set_option maxHeartbeats 4000000 in
theorem greatK_any (l : List K) (a : Option Addr) (cap : Nat) (oid ver : Int) (nm : ByteArray) (id : Int) (cols : List Col) (a2 : Option Addr) (cap2 : Nat) (w : World) (hl : Sl w (.slice a l.length cap) 6 (l.map K.rc)) (hl2 : Sl w (.slice a2 cols.length cap2) 3 (cols.map Col.cells))
    (hlen : l.length ≤ 9223372036854775807) (hlen2 : cols.length ≤ 9223372036854775807) (hs : ∀ c ∈ l, c.v.s.size ≤ 9223372036854775807) (hs2 : ∀ c ∈ cols, c.nm.size ≤ 9223372036854775807) (hnm : nm.size ≤ 9223372036854775807) :
    Calls Tryz.prog 38 #[.slice a l.length cap, .agg #[.int .u32 oid, .int .u32 ver, .string nm, .int .u8 id, .slice a2 cols.length cap2]] w (GreatK l cols nm w) := by
  have HL := Hid.mk' hl
  have HL2 := Hid.mk' hl2
  have HS := Hid.mk' hs
  have HS2 := Hid.mk' hs2
  clear hl hl2 hs hs2
  go_enter Tryz.func38, Tryz.ntmps38
  go_wp2
  go_loopw [5] (fun i wr => ∃ k : Nat, k ≤ l.length ∧ i = .int .i64 k ∧ Hid (∀ j (hj : j < l.length), j < k → l[j].v.s.size ≤ 3000) ∧ Hid (Ext (w.alloc (.cells #[.int .u32 oid, .int .u32 ver, .string nm, .int .u8 id, .slice a2 cols.length cap2] 101)) wr)) (fun i _ => l.length - (intOf i).toNat)
  case atStart => exact ⟨0, Nat.zero_le _, rfl, fun j _ h => by omega, Ext.refl _⟩
  case round =>
    obtain ⟨k, hk, rfl, hrel, hE⟩ := hrel
    have hEw : Hid (Ext w wr) := Hid.mk' (((Ext.refl w).alloc _).trans hE.out)
    by_cases hlt : k < l.length
    · obtain ⟨b, o, rfl, hb, hx⟩ := HL.out.at_ (i := k) (by simpa using hlt)
      obtain ⟨f0, f1, f2, f3, f4, f5⟩ := K.rcAt hlt hx hb hEw.out
      have hbw : b < wr.heap.size := Nat.lt_of_lt_of_le hb hEw.out.size
      have hsz := HS.out _ (List.getElem_mem hlt)
      clear hx
      by_cases h3 : 3000 < l[k].v.s.size
      · go_wp2
        go_ret
        exact ⟨true, rfl, (fun h => by cases h), hEw.out⟩
      · have h4 : l[k].v.s.size ≤ 3000 := by omega
        go_wp2
        go_roundw
        case rel => exact ⟨k + 1, by omega, by go_num, fun j hj hjk => by
          by_cases e : j = k
          · subst e; exact h4
          · exact hrel.out j hj (by omega), hE⟩
        case measure => simp [intOf]; omega
    · have hkk : k = l.length := by omega
      have H3 : Hid (∀ c ∈ l, c.v.s.size ≤ 3000) := Hid.mk' (fun c hc => by
        obtain ⟨i, hi, rfl⟩ := List.getElem_of_mem hc
        exact hrel.out i hi (by omega))
      subst hkk
      clear hrel
      have hBx := (Blk.new w #[.int .u32 oid, .int .u32 ver, .string nm, .int .u8 id, .slice a2 cols.length cap2] 101).ext hE.out
      have g0 := hBx.cell
      have z0 := hBx.lt
      clear hBx
      go_wp2
      obtain ⟨wo, rfl⟩ : ∃ wo : World, wo = wr := ⟨_, rfl⟩
      go_loopw [6] (fun i wr => ∃ k : Nat, k ≤ cols.length ∧ i = .int .i64 k ∧ Hid (∀ j (hj : j < cols.length), j < k → cols[j].nm.size ≤ 60) ∧ wr = wo) (fun i _ => cols.length - (intOf i).toNat)
      case atStart => exact ⟨0, Nat.zero_le _, rfl, fun j _ h => by omega, rfl⟩
      case round =>
        obtain ⟨k, hk, rfl, hrel, rfl⟩ := hrel
        by_cases hlt : k < cols.length
        · obtain ⟨b, o, rfl, hb, hx⟩ := HL2.out.at_ (i := k) (by simpa using hlt)
          obtain ⟨f0, f1, f2⟩ := Col.at_ hlt hx hb hEw.out
          have hbw : b < wr.heap.size := Nat.lt_of_lt_of_le hb hEw.out.size
          have hsz := HS2.out _ (List.getElem_mem hlt)
          clear hx
          by_cases h3 : 60 < cols[k].nm.size
          · go_wp2
            go_ret
            exact ⟨true, rfl, (fun h => by cases h), hEw.out⟩
          · have h4 : cols[k].nm.size ≤ 60 := by omega
            go_wp2
            go_roundw
            case rel => exact ⟨k + 1, by omega, by go_num, fun j hj hjk => by
              by_cases e : j = k
              · subst e; exact h4
              · exact hrel.out j hj (by omega), (by first | trivial | rfl)⟩
            case measure => simp [intOf]; omega
        · have hkk : k = cols.length := by omega
          have H4 : Hid (∀ c ∈ cols, c.nm.size ≤ 60) := Hid.mk' (fun c hc => by
            obtain ⟨i, hi, rfl⟩ := List.getElem_of_mem hc
            exact hrel.out i hi (by omega))
          subst hkk
          clear hrel
          by_cases c1 : 20 < l.length
          · go_wp2
            go_ret
            exact ⟨_, rfl, fun h => by simp at h; try omega, hEw.out⟩
          · have c1' : l.length ≤ 20 := by omega
            by_cases c2 : 20 < cols.length
            · go_wp2
              go_ret
              exact ⟨_, rfl, fun h => by simp at h; try omega, hEw.out⟩
            · have c2' : cols.length ≤ 20 := by omega
              go_wp2
              go_ret
              exact ⟨_, rfl, fun h => ⟨H3.out, H4.out, c1', c2', by simp at h; omega⟩, hEw.out⟩

end Go.Proofs.YtlobghojjfkchaaGreat

/-
Transactions that lie somewhere; the laws' Great.
-/
namespace Go.Proofs.YtlobghojjfkchaaGreat
open Go.RowKit

/-- A transaction that lies somewhere. -/
structure TL where
  xid : Int
  st : Int
  es : List EL
  a : Option Addr
  c : Nat
def TL.vals (x : TL) : List Value := [.int .u32 x.xid, .int .u64 x.st, .slice x.a x.es.length x.c]
def TL.agg (x : TL) : Value := .agg #[.int .u32 x.xid, .int .u64 x.st, .slice x.a x.es.length x.c]
def TL.at (n : Nat) (f : K → List Value) (W : World) (x : TL) : Prop := ES n f W (.slice x.a x.es.length x.c) x.es
theorem TL.at.ext {n : Nat} {f : K → List Value} {W W' : World} {x : TL} (h : x.at n f W) (he : Ext W W') : x.at n f W' := ES.ext h he
theorem TL.at_ {w wr : World} {b o : Nat} {l : List TL} {k : Nat} (hk : k < l.length) (hc : ∀ j, j < 3 → w.cell? ⟨b, o + k * 3 + j, none⟩ = ((l.map TL.vals).getD k [])[j]?) (hb : b < w.heap.size) (hE : Ext w wr) :
    wr.cell? ⟨b, o + k * 3, none⟩ = some (.int .u32 l[k].xid) ∧ wr.cell? ⟨b, o + k * 3 + 1, none⟩ = some (.int .u64 l[k].st) ∧ wr.cell? ⟨b, o + k * 3 + 2, none⟩ = some (.slice l[k].a l[k].es.length l[k].c) := by
  rw [getD_map TL.vals l hk] at hc
  have c := hE.cells.1 b
  exact ⟨(c _ hb).trans (hc 0 (by omega)), (c _ hb).trans (hc 1 (by omega)), (c _ hb).trans (hc 2 (by omega))⟩
/-- Transactions in a row. -/
structure TS (n : Nat) (f : K → List Value) (W : World) (v : Value) (xs : List TL) : Prop where
  row : Sl W v 3 (xs.map TL.vals)
  sl : ∀ x ∈ xs, x.at n f W
theorem TS.ext {n : Nat} {f : K → List Value} {W W' : World} {v : Value} {xs : List TL} (h : TS n f W v xs) (he : Ext W W') : TS n f W' v xs := ⟨h.row.ext he, fun x hx => (h.sl x hx).ext he⟩
/-- What is known of the sizes of an event, of a transaction, of the arguments. -/
structure Ev.sz (e : Ev) : Prop where
  b : e.b.length ≤ 9223372036854775807
  a : e.a.length ≤ 9223372036854775807
  r : e.rs.length ≤ 9223372036854775807
  sb : ∀ c ∈ e.b, c.wk
  sa : ∀ c ∈ e.a, c.wk
  kind : 0 ≤ e.kind ∧ e.kind < 256
  old : 0 ≤ e.old ∧ e.old < 256
  fl : 0 ≤ e.fl ∧ e.fl < 256
structure TL.sz (x : TL) : Prop where
  n : x.es.length ≤ 1500000000000
  e : ∀ e ∈ x.es, e.e.sz
  xid : 0 ≤ x.xid
/-- Not great. -/
structure Ev.lit (e : Ev) : Prop where
  b : e.b.length ≤ 20
  a : e.a.length ≤ 20
  r : e.rs.length ≤ 30
  sb : ∀ c ∈ e.b, c.v.s.size ≤ 3000
  sa : ∀ c ∈ e.a, c.v.s.size ≤ 3000
def manyT (ts : List TL) (k : Nat) : Nat := ((ts.take k).map fun t => t.es.length).sum
structure Lit (ps : List RR) (ts : List TL) : Prop where
  n : ps.length ≤ 70
  t : ts.length ≤ 60
  es : manyT ts ts.length ≤ 600
  e : ∀ t ∈ ts, ∀ e ∈ t.es, e.e.lit
  r : ∀ p ∈ ps, p.r.cols.length ≤ 20
def GreatT (ps : List RR) (ts : List TL) (w : World) (e : Ending) (w' : World) : Prop := ∃ g : Bool, e = .returned (.bool g) ∧ (g = false → Lit ps ts) ∧ Ext w w'
theorem manyT_succ {ts : List TL} {k : Nat} (hk : k < ts.length) : manyT ts (k + 1) = manyT ts k + ts[k].es.length := by
  unfold manyT
  rw [List.take_succ_eq_append_getElem hk, List.map_append, List.sum_append]; simp
theorem manyT_bd {ts : List TL} (h : ∀ t ∈ ts, t.sz) (k : Nat) : manyT ts k ≤ k * 1500000000000 := by
  induction k with
  | zero => exact Nat.le_of_eq (by unfold manyT; rw [Nat.zero_mul]; rfl)
  | succ k ih =>
    by_cases hk : k < ts.length
    · rw [manyT_succ hk, Nat.succ_mul]; exact Nat.add_le_add ih (h _ (List.getElem_mem hk)).n
    · have e : manyT ts (k + 1) = manyT ts k := by unfold manyT; rw [List.take_of_length_le (by omega), List.take_of_length_le (by omega)]
      rw [e]; exact Nat.le_trans ih (Nat.mul_le_mul_right _ (by omega))

/-- What is known when k transactions were looked at. -/
structure GrI (ts : List TL) (m : Int) (k : Nat) : Prop where
  mm : ts.length ≤ 60 → m = manyT ts k
  e : ts.length ≤ 60 → m ≤ 600 → ∀ j (h : j < ts.length), j < k → ∀ e ∈ ts[j].es, e.e.lit
theorem GrI.zero (ts : List TL) : GrI ts 0 0 := ⟨fun _ => rfl, fun _ _ j _ h => by omega⟩
theorem GrI.succ {ts : List TL} {m : Int} {k : Nat} (h : GrI ts m k) (hs : ∀ t ∈ ts, t.sz) (hk : k < ts.length) (he : wrap64 (m + (ts[k].es.length : Nat)) ≤ 600 → ∀ e ∈ ts[k].es, e.e.lit) : GrI ts (wrap64 (m + (ts[k].es.length : Nat))) (k + 1) := by
  have hw : ts.length ≤ 60 → wrap64 (m + (ts[k].es.length : Nat)) = manyT ts (k + 1) := fun h60 => by
    have h1 := h.mm h60
    have h2 := manyT_bd hs k
    have h3 := (hs _ (List.getElem_mem hk)).n
    have h4 : k * 1500000000000 ≤ 60 * 1500000000000 := Nat.mul_le_mul_right _ (by omega)
    rw [manyT_succ hk, h1]
    have e : ((manyT ts k : Nat) : Int) + ((ts[k].es.length : Nat) : Int) = ((manyT ts k + ts[k].es.length : Nat) : Int) := by omega
    rw [e]
    exact IntWalk.wrap64_in _ (by omega)
  refine ⟨hw, fun h60 hm j hj hjk => ?_⟩
  by_cases e : j = k
  · subst e; exact he hm
  · refine h.e h60 ?_ j hj (by omega)
    rw [h.mm h60]
    rw [hw h60, manyT_succ hk] at hm
    omega

set_option maxRecDepth 100000 in set_option maxHeartbeats 4000000 in
theorem greatT_any (ps : List RR) (ts : List TL) (a a2 : Option Addr) (c c2 : Nat) (w : World) (hp : RL w (.slice a ps.length c) ps) (ht : TS 6 K.rc w (.slice a2 ts.length c2) ts) (hn : ps.length ≤ 9223372036854775807) (hm : ts.length ≤ 9223372036854775807) (hw : ∀ p ∈ ps, p.r.wb) (hs : ∀ t ∈ ts, t.sz) :
    Calls Tryz.prog 9 #[.slice a ps.length c, .slice a2 ts.length c2] w (GreatT ps ts w) := by
  have HP := Hid.mk' hp
  have HT := Hid.mk' ht
  have HW := Hid.mk' hw
  have HS := Hid.mk' hs
  have HGR := Hid.mk' (fun W p (h : Ext w W) (hp' : p ∈ ps) => (show Calls Tryz.prog 38 #[.slice none 0 0, p.agg] W (GreatK [] p.r.cols p.r.nm W) from greatK_any [] none 0 p.r.oid p.r.ver p.r.nm p.r.id p.r.cols p.a p.c W ⟨none, 0, rfl, .inl rfl⟩ ((hp.sl p hp').ext h) (by simp) (by have := (hw p hp').n; omega) (by intro c hc; cases hc) (hw p hp').cs (hw p hp').nm))
  have HGK := Hid.mk' (fun W (l : List K) (ab : Option Addr) (cb : Nat) (h : Sl W (.slice ab l.length cb) 6 (l.map K.rc)) (h1 : l.length ≤ 9223372036854775807) (h2 : ∀ c ∈ l, K.wk c) => (show Calls Tryz.prog 38 #[.slice ab l.length cb, .agg #[.int .u32 0, .int .u32 0, .string ⟨#[]⟩, .int .u8 0, .slice none 0 0]] W (GreatK l [] ⟨#[]⟩ W) from greatK_any l ab cb 0 0 ⟨#[]⟩ 0 [] none 0 W h ⟨none, 0, rfl, .inl rfl⟩ h1 (by simp) (fun c hc => (h2 c hc).s) (by intro c hc; cases hc) (by show 0 ≤ 9223372036854775807; omega)))
  clear hp ht hw hs
  go_enter Tryz.func9, Tryz.ntmps9
  go_wp2
  go_loopg [5, 6] ts.length (fun z mv i wr => ∃ (m : Int) (k : Nat), z + k = ts.length ∧ i = .int .i64 k ∧ mv = .int .i64 m ∧ Hid (GrI ts m k) ∧ Hid (Ext w wr))
  case atStart => exact ⟨0, 0, by omega, rfl, rfl, Hid.mk' (GrI.zero ts), Hid.mk' (Ext.refl _)⟩
  case round =>
    obtain ⟨m, k, hzk, rfl, rfl, hG, hE⟩ := hrel
    by_cases hlt : k < ts.length
    · obtain ⟨b, o, rfl, hb, hx⟩ := HT.out.row.at_ (i := k) (by simpa using hlt)
      have HF := Hid.mk' (fun W (h : Ext w W) => TL.at_ hlt hx hb h)
      obtain ⟨f0, f1, f2⟩ := HF.out wr hE.out
      have hbw : b < wr.heap.size := Nat.lt_of_lt_of_le hb hE.out.size
      have HES := Hid.mk' (HT.out.sl _ (List.getElem_mem hlt))
      have HSZ := Hid.mk' (HS.out _ (List.getElem_mem hlt))
      have HNX := Hid.mk' (fun he => GrI.succ hG.out HS.out hlt he)
      obtain ⟨t, ht⟩ : ∃ t, t = ts[k] := ⟨_, rfl⟩
      rw [← ht] at HF f0 f1 f2 HES HSZ HNX
      clear ht hx
      obtain ⟨xid, st, es, ta, tc⟩ := t
      simp only at HF f0 f1 f2 HSZ HNX
      have HES2 : Hid (ES 6 K.rc w (.slice ta es.length tc) es) := HES
      clear HES
      obtain ⟨X, hX⟩ : ∃ X, X = wrap64 (m + (es.length : Nat)) := ⟨_, rfl⟩
      rw [← hX] at HNX
      have HX := Hid.mk' hX
      clear hX
      obtain ⟨wo, hwo⟩ : ∃ x, x = wr := ⟨_, rfl⟩
      subst hwo
      have HEo := Hid.mk' hE.out
      clear hE
      go_wp2
      rw [show wrap64 (m + (es.length : Int)) = X from HX.out.symm]
      go_loopg [7] es.length (fun z2 i wr => ∃ (n : Nat), z2 + n = es.length ∧ i = .int .i64 n ∧ Hid (∀ j (h : j < es.length), j < n → es[j].e.lit) ∧ Hid (Ext wo wr))
      case atStart => exact ⟨0, by omega, rfl, Hid.mk' (fun j _ h => by omega), Hid.mk' (Ext.refl _)⟩
      case round =>
        obtain ⟨n, hzn, rfl, hL, hE⟩ := hrel
        have HEr := Hid.mk' (HEo.out.trans hE.out)
        clear f0 f1 f2
        obtain ⟨f0, f1, f2⟩ := HF.out wr HEr.out
        have hbw2 : b < wr.heap.size := Nat.lt_of_lt_of_le hbw hE.out.size
        by_cases hlt2 : n < es.length
        · by_cases hX6 : X ≤ 600
          · obtain ⟨b2, o2, rfl, hb2, hx2⟩ := HES2.out.row.at_ (i := n) (by simpa using hlt2)
            have hbw3 : b2 < wr.heap.size := Nat.lt_of_lt_of_le hb2 HEr.out.size
            obtain ⟨g0, g1, g2, g3, g4, g5, g6, g7⟩ := EL.at_ hlt2 hx2 hb2 HEr.out
            have hxa := HES2.out.sl _ (List.getElem_mem hlt2)
            have hxs := HSZ.out.e _ (List.getElem_mem hlt2)
            obtain ⟨x, hxx⟩ : ∃ x, x = es[n] := ⟨_, rfl⟩
            rw [← hxx] at g0 g1 g2 g3 g4 g5 g6 g7 hxa hxs
            have HXX := Hid.mk' hxx
            have HKB := Hid.mk' (fun W (h : Ext w W) => HGK.out W x.e.b x.ba x.bc (hxa.b.ext h) hxs.b hxs.sb)
            have HKA := Hid.mk' (fun W (h : Ext w W) => HGK.out W x.e.a x.aa x.ac (hxa.a.ext h) hxs.a hxs.sa)
            have hxr := hxs.r
            have hlen := HSZ.out.n
            obtain ⟨⟨k1, ao1, av1, old1, b1, a1, r1, fl1⟩, ba1, bc1, aa1, ac1, ra1, rc1⟩ := x
            simp only at g0 g1 g2 g3 g4 g5 g6 g7 HKB HKA hxr
            clear hxa hxs hxx hx2
            go_wp2_with (first
              | (go_at_call_of 38 (Value.slice ba1 b1.length bc1); (with_reducible refine (HKB.out _ (by have := HEr.out; exact eX)).mono ?_); rintro e w2 ⟨g, rfl, hg, hb2⟩; (have hE_w2 : Ext (wr.alloc (.cells #[.int .u8 k1, .int .u32 ao1, .int .u32 av1, .int .u8 old1, .slice ba1 b1.length bc1, .slice aa1 a1.length ac1, .slice ra1 r1.length rc1, .int .u8 fl1] 29)) w2 := (by exact eX); obtain ⟨hc_w2, hf_w2⟩ := hE_w2.cells; have hz_w2 := hE_w2.size); have HGB := Hid.mk' hg; clear hg; cases g)
              | (go_at_call_of 38 (Value.slice aa1 a1.length ac1); (with_reducible refine (HKA.out _ (by have := HEr.out; exact eX)).mono ?_); rintro e w3 ⟨g, rfl, hg, hb3⟩; (have hE_w3 : Ext (wr.alloc (.cells #[.int .u8 k1, .int .u32 ao1, .int .u32 av1, .int .u8 old1, .slice ba1 b1.length bc1, .slice aa1 a1.length ac1, .slice ra1 r1.length rc1, .int .u8 fl1] 29)) w3 := (by exact eX); obtain ⟨hc_w3, hf_w3⟩ := hE_w3.cells; have hz_w3 := hE_w3.size); have HGA := Hid.mk' hg; clear hg; cases g))
            all_goals first
              | (go_ret; exact ⟨true, rfl, (fun h => by cases h), HEr.out.trans (by exact eX)⟩)
              | skip
            have HXL : Hid (es[n].e.lit) := Hid.mk' (by
              rw [← HXX.out]
              have hb := HGB.out (by first | exact rfl | exact trivial)
              have ha := HGA.out (by first | exact rfl | exact trivial)
              exact ⟨hb.2.2.1, ha.2.2.1, by show r1.length ≤ 30; omega, hb.1, ha.1⟩)
            go_roundg (es.length - (n + 1))
            case measure => omega
            case rel => exact ⟨n + 1, by omega, by go_num, Hid.mk' (fun j hj hjn => by
              by_cases e : j = n
              · subst e; exact HXL.out
              · exact hL.out j hj (by omega)), Hid.mk' (hE.out.trans (by exact eX))⟩
          · go_wp2
            go_roundg (ts.length - (k + 1))
            case measure => omega
            case rel => exact ⟨X, k + 1, by omega, by go_num, rfl, Hid.mk' (HNX.out (fun h => by omega)), HEr⟩
        · obtain rfl : n = es.length := by omega
          have HNX2 := Hid.mk' (HNX.out (fun _ e he => by
            obtain ⟨j, hj, rfl⟩ := List.getElem_of_mem he
            exact hL.out j hj hj))
          go_wp2
          go_roundg (ts.length - (k + 1))
          case measure => omega
          case rel => exact ⟨X, k + 1, by omega, by go_num, rfl, HNX2, HEr⟩
    · obtain rfl : k = ts.length := by omega
      obtain ⟨wo, hwo⟩ : ∃ x, x = wr := ⟨_, rfl⟩
      subst hwo
      go_wp2
      go_loopg [9] ps.length (fun z i wr => ∃ (n : Nat), z + n = ps.length ∧ i = .int .i64 n ∧ Hid (∀ j (h : j < ps.length), j < n → ps[j].r.cols.length ≤ 20) ∧ Hid (Ext wo wr))
      case atStart => exact ⟨0, by omega, rfl, Hid.mk' (fun j _ h => by omega), Hid.mk' (Ext.refl _)⟩
      case round =>
        obtain ⟨n, hzn, rfl, hL, hF⟩ := hrel
        by_cases hlt2 : n < ps.length
        · obtain ⟨b, o, rfl, hb, hx⟩ := HP.out.row.at_ (i := n) (by simpa using hlt2)
          obtain ⟨f0, f1, f2, f3, f4⟩ := RR.at_ hlt2 hx hb (hE.out.trans hF.out)
          have hbw : b < wr.heap.size := Nat.lt_of_lt_of_le hb (hE.out.trans hF.out).size
          have HPM := Hid.mk' (List.getElem_mem hlt2)
          obtain ⟨p, hp⟩ : ∃ p, p = ps[n] := ⟨_, rfl⟩
          rw [← hp] at f0 f1 f2 f3 f4 HPM
          have HPP := Hid.mk' hp
          have HGP := Hid.mk' (fun W (h : Ext w W) => HGR.out W p h HPM.out)
          unfold RR.agg at HGP
          clear hp hx
          go_wp2_with (go_at_call 38; refine (HGP.out _ (hE.out.trans hF.out)).mono ?_; rintro e w2 ⟨g, rfl, hg, hb2⟩; have HGB := Hid.mk' hg; clear hg; cases g)
          all_goals first
            | (go_ret; exact ⟨true, rfl, (fun h => by cases h), (hE.out.trans hF.out).trans (by exact eX)⟩)
            | skip
          go_roundg (ps.length - (n + 1))
          case measure => omega
          case rel => exact ⟨n + 1, by omega, by go_num, Hid.mk' (fun j hj hjn => by
            by_cases e : j = n
            · subst e; rw [← HPP.out]; exact (HGB.out (by first | exact rfl | exact trivial)).2.2.2.1
            · exact hL.out j hj (by omega)), Hid.mk' (hF.out.trans (by exact eX))⟩
        · obtain rfl : n = ps.length := by omega
          by_cases h6 : 600 < m
          · go_wp2
            go_ret
            exact ⟨true, rfl, (fun h => by cases h), hE.out.trans hF.out⟩
          by_cases h60 : 60 < ts.length
          · go_wp2
            go_ret
            exact ⟨true, ret_bool (by first | (simp; done) | (simp; omega)), (fun h => by cases h), hE.out.trans hF.out⟩
          by_cases h70 : 70 < ps.length
          · go_wp2
            go_ret
            exact ⟨true, ret_bool (by first | (simp; done) | (simp; omega)), (fun h => by cases h), hE.out.trans hF.out⟩
          have HLIT : Hid (Lit ps ts) := Hid.mk' (by
            have e1 := hG.out.mm (by omega)
            have e2 := hG.out.e (by omega) (by omega)
            refine ⟨by omega, by omega, by omega, fun t ht e he => ?_, fun p hp => ?_⟩
            · obtain ⟨j, hj, rfl⟩ := List.getElem_of_mem ht
              exact e2 j hj hj e he
            · obtain ⟨j, hj, rfl⟩ := List.getElem_of_mem hp
              exact hL.out j hj hj)
          go_wp2
          go_ret
          exact ⟨false, ret_bool (by first | (simp; done) | (simp; omega)), fun _ => HLIT.out, hE.out.trans hF.out⟩

end Go.Proofs.YtlobghojjfkchaaGreat

/-
The laws' Own of an event.
-/
namespace Go.Proofs.YtlobghojjfkchaaGreat
open Go.RowKit

theorem Tryz.infoRfE : (Tryz.prog.info? 45).map (fun i => (i.zero, i.size, i.bytes)) = some (some (.agg #[.int .u32 0, .int .u32 0]), 2, 8) := by kernel_rfl

set_option maxRecDepth 100000 in set_option maxHeartbeats 4000000 in
theorem eown_any (kind ao av old : Int) (lb la : List K) (rs : List Rf) (fl : Int) (ba aa ra : Option Addr) (bc ac rc : Nat) (w : World) (hb : Sl w (.slice ba lb.length bc) 6 (lb.map K.rc)) (ha : Sl w (.slice aa la.length ac) 6 (la.map K.rc)) (hr : Sl w (.slice ra rs.length rc) 2 (rs.map Rf.cells)) (hnb : lb.length ≤ 1000) (hna : la.length ≤ 1000) (hnr : rs.length ≤ 1000) :
    Calls Tryz.prog 13 #[.agg #[.int .u8 kind, .int .u32 ao, .int .u32 av, .int .u8 old, .slice ba lb.length bc, .slice aa la.length ac, .slice ra rs.length rc, .int .u8 fl]] w fun e w' => ∃ b1 c1 a1 d1 r1 e1, e = .returned (.agg #[.int .u8 kind, .int .u32 ao, .int .u32 av, .int .u8 old, .slice b1 lb.length c1, .slice a1 la.length d1, .slice r1 rs.length e1, .int .u8 fl]) ∧ (⟨⟨kind, ao, av, old, lb, la, rs, fl⟩, b1, c1, a1, d1, r1, e1⟩ : EL).at 5 K.pc w' ∧ (⟨⟨kind, ao, av, old, lb, la, rs, fl⟩, b1, c1, a1, d1, r1, e1⟩ : EL).on (fun b => w.heap.size ≤ b) ∧ Ext w w' := by
  obtain ⟨i0, hi, hz0, hz1, hz2⟩ := info_parts Tryz.infoRfE
  have HOB := Hid.mk' (fun W (h : Ext w W) => ownK_fr lb ba bc W (hb.ext h) hnb)
  have HOA := Hid.mk' (fun W (h : Ext w W) => ownK_fr la aa ac W (ha.ext h) hna)
  have HR := Hid.mk' hr
  clear hb ha hr
  go_enter Tryz.func13, Tryz.ntmps13
  go_upto_region 1 with (fail)
  go_cut [3] (fun p wx => ∃ X b1 c1 a1 d1, p = .pointer (some ⟨X, 0, none⟩) ∧ Hid (Blk wx X #[.int .u8 kind, .int .u32 ao, .int .u32 av, .int .u8 old, .slice b1 lb.length c1, .slice a1 la.length d1, .slice none 0 0, .int .u8 fl] 50) ∧ Hid (Sl wx (.slice b1 lb.length c1) 5 (lb.map K.pc)) ∧ Hid (Sl wx (.slice a1 la.length d1) 5 (la.map K.pc)) ∧ Hid (lb.map K.pc ≠ [] → ∀ b o, b1 = some ⟨b, o, none⟩ → b ≠ X ∧ w.heap.size + 1 < b) ∧ Hid (la.map K.pc ≠ [] → ∀ b o, a1 = some ⟨b, o, none⟩ → b ≠ X ∧ w.heap.size + 1 < b) ∧ Hid (w.heap.size + 1 < X) ∧ Hid (Ext ((w.alloc (.cells #[.int .u8 kind, .int .u32 ao, .int .u32 av, .int .u8 old, .slice ba lb.length bc, .slice aa la.length ac, .slice ra rs.length rc, .int .u8 fl] 29)).alloc (.cells #[.int .u8 0, .int .u32 0, .int .u32 0, .int .u8 0, .slice none 0 0, .slice none 0 0, .slice none 0 0, .int .u8 0] 50)) wx))
  case first =>
    go_region_held3 (fun w' => Ext (((w.alloc (.cells #[.int .u8 kind, .int .u32 ao, .int .u32 av, .int .u8 old, .slice ba lb.length bc, .slice aa la.length ac, .slice ra rs.length rc, .int .u8 fl] 29)).alloc (.cells #[.int .u8 0, .int .u32 0, .int .u32 0, .int .u8 0, .slice none 0 0, .slice none 0 0, .slice none 0 0, .int .u8 0] 50))) w' ∧ (∀ b o, b < (((w.alloc (.cells #[.int .u8 kind, .int .u32 ao, .int .u32 av, .int .u8 old, .slice ba lb.length bc, .slice aa la.length ac, .slice ra rs.length rc, .int .u8 fl] 29)).alloc (.cells #[.int .u8 0, .int .u32 0, .int .u32 0, .int .u8 0, .slice none 0 0, .slice none 0 0, .slice none 0 0, .int .u8 0] 50))).heap.size → w'.cell? ⟨b, o, none⟩ = (((w.alloc (.cells #[.int .u8 kind, .int .u32 ao, .int .u32 av, .int .u8 old, .slice ba lb.length bc, .slice aa la.length ac, .slice ra rs.length rc, .int .u8 fl] 29)).alloc (.cells #[.int .u8 0, .int .u32 0, .int .u32 0, .int .u8 0, .slice none 0 0, .slice none 0 0, .slice none 0 0, .int .u8 0] 50))).cell? ⟨b, o, none⟩) ∧ (∀ b o, b < (((w.alloc (.cells #[.int .u8 kind, .int .u32 ao, .int .u32 av, .int .u8 old, .slice ba lb.length bc, .slice aa la.length ac, .slice ra rs.length rc, .int .u8 fl] 29)).alloc (.cells #[.int .u8 0, .int .u32 0, .int .u32 0, .int .u8 0, .slice none 0 0, .slice none 0 0, .slice none 0 0, .int .u8 0] 50))).heap.size → w'.frozen? ⟨b, o, none⟩ = (((w.alloc (.cells #[.int .u8 kind, .int .u32 ao, .int .u32 av, .int .u8 old, .slice ba lb.length bc, .slice aa la.length ac, .slice ra rs.length rc, .int .u8 fl] 29)).alloc (.cells #[.int .u8 0, .int .u32 0, .int .u32 0, .int .u8 0, .slice none 0 0, .slice none 0 0, .slice none 0 0, .int .u8 0] 50))).frozen? ⟨b, o, none⟩)) ((exact held_of (by exact eX)))
      (first
        | (go_at_call 48; refine (ref9_any _ _ _).mono ?_; rintro e w2 ⟨rfl, hb2⟩; obtain ⟨hc2, hf2⟩ := hb2.cells; have hz2 := hb2.size; (try simp at hz2); have q2 : w.heap.size + 1 < w2.heap.size := (by omega); (try have p2 : w.heap.size + 1 + 1 < w2.heap.size := (by omega)))
        | (go_at_call_of 49 (Value.slice ba lb.length bc); refine (HOB.out _ (by exact eX)).mono ?_; rintro e w3 ⟨b1, c1, rfl, -, hs3, hb3⟩; have H3 := Hid.mk' hs3; clear hs3; obtain ⟨hc3, hf3⟩ := hb3.cells; have hz3 := hb3.size; (try simp at hz3); have q3 : w.heap.size + 1 < w3.heap.size := (by omega); (try have q23 : w2.heap.size < w3.heap.size := (by omega)); (try have p3 : w.heap.size + 1 + 1 < w3.heap.size := (by omega)))
        | (go_at_call_of 49 (Value.slice aa la.length ac); refine (HOA.out _ (by exact eX)).mono ?_; rintro e w4 ⟨a1, d1, rfl, -, hs4, hb4⟩; have H4 := Hid.mk' hs4; clear hs4; obtain ⟨hc4, hf4⟩ := hb4.cells; have hz4 := hb4.size; (try simp at hz4); have q4 : w.heap.size + 1 < w4.heap.size := (by omega); (try have p4 : w.heap.size + 1 + 1 < w4.heap.size := (by omega)); (try have q24 : w2.heap.size < w4.heap.size := (by omega)); (try have q35 : w3.heap.size < w4.heap.size := (by omega))))
    all_goals
      go_wp2
      go_meet
      case rel =>
        refine ⟨_, b1, c1, a1, d1, rfl, Hid.mk' ?_, Hid.mk' ?_, Hid.mk' ?_, Hid.mk' ?_, Hid.mk' ?_, Hid.mk' ?_, Hid.mk' ?_⟩
        · repeat (with_reducible (first | exact Blk.new _ _ _ | (refine Blk.new' _ _ ?_; (simp; done)) | apply Blk.eight | refine Blk.alloc ?_ _ | refine Blk.drew ?_ | refine Blk.ext ?_ hb4 | refine Blk.ext ?_ hb3 | refine Blk.ext ?_ hb2))
        · first | ((with_reducible refine Fr.sl (Fr.eight (Fr.ext H3.out ?_) ?_)); (· exact eX); (· first | (simp; done) | (simp; omega) | omega | (left; simp; done) | (left; simp; omega) | (right; simp; done) | (right; simp; omega))) | ((with_reducible refine Fr.sl (Fr.ext H3.out ?_)); · exact eX)
        · first | ((with_reducible refine Fr.sl (Fr.eight (Fr.ext H4.out ?_) ?_)); (· exact eX); (· first | (simp; done) | (simp; omega) | omega | (left; simp; done) | (left; simp; omega) | (right; simp; done) | (right; simp; omega))) | ((with_reducible refine Fr.sl (Fr.ext H4.out ?_)); · exact eX)
        · refine fun h0 => Fr.ne2 H3.out ?_ ?_ h0; (· first | (simp; done) | (simp; omega) | omega | (left; simp; done) | (left; simp; omega) | (right; simp; done) | (right; simp; omega)); (· first | omega | (simp; omega) | simp)
        · refine fun h0 => Fr.ne2 H4.out ?_ ?_ h0; (· first | (simp; done) | (simp; omega) | omega | (left; simp; done) | (left; simp; omega) | (right; simp; done) | (right; simp; omega)); (· first | omega | (simp; omega) | simp)
        · first | omega | (simp; omega) | simp
        · first | exact eX | (repeat (with_reducible refine Ext.setCell ?_ (by first | (simp; done) | (simp; omega) | omega) _); exact eX)
  case rest =>
    obtain ⟨X, b1, c1, a1, d1, rfl, HX, HSB, HSA, HNB, HNA, HWX, HE⟩ := hcut
    have HEc := Hid.mk' (show Ext w wc from (((Ext.refl w).alloc _).alloc _).trans HE.out)
    have HB1 := Hid.mk' (((Blk.new w #[.int .u8 kind, .int .u32 ao, .int .u32 av, .int .u8 old, .slice ba lb.length bc, .slice aa la.length ac, .slice ra rs.length rc, .int .u8 fl] 29).alloc (.cells #[.int .u8 0, .int .u32 0, .int .u32 0, .int .u8 0, .slice none 0 0, .slice none 0 0, .slice none 0 0, .int .u8 0] 50)).ext HE.out)
    have HB2 := Hid.mk' ((Blk.new' (w := w.alloc (.cells #[.int .u8 kind, .int .u32 ao, .int .u32 av, .int .u8 old, .slice ba lb.length bc, .slice aa la.length ac, .slice ra rs.length rc, .int .u8 fl] 29)) (b := w.heap.size + 1) #[.int .u8 0, .int .u32 0, .int .u32 0, .int .u8 0, .slice none 0 0, .slice none 0 0, .slice none 0 0, .int .u8 0] 50 (by simp)).ext HE.out)
    clear HOB HOA
    have hzX : X < wc.heap.size := HX.out.lt
    have hzw : w.heap.size < X := by have := HWX.out; omega
    have HZX := Hid.mk' (And.intro hzX hzw)
    clear HE
    go_wp2
    go_loopw [4] (fun i wr => ∃ (k : Nat) (va : Option Addr) (vc : Nat), k ≤ rs.length ∧ i = .int .i64 k ∧ Hid (Blk wr X #[.int .u8 kind, .int .u32 ao, .int .u32 av, .int .u8 old, .slice b1 lb.length c1, .slice a1 la.length d1, .slice va k vc, .int .u8 fl] 50) ∧ Hid (wr.ownsRow wc.heap.size 45 2 (.slice va k vc) k ((rs.take k).map Rf.cells).flatten) ∧ Hid (Kp (fun x => x = X) wc wr)) (fun i _ => rs.length - (intOf i).toNat)
    case atStart => exact ⟨0, none, 0, Nat.zero_le _, rfl, HX, Hid.mk' (World.ownsRow_nil _ _ _ _), Hid.mk' Kp.refl⟩
    case round =>
      obtain ⟨k, va, vc, hk, rfl, hX, hown, hK⟩ := hrel
      have HEW : Hid (Ext w wr) := Hid.mk' (Kp.ext HEc.out (fun x hx _ => by have := HZX.out.2; omega) hK.out)
      have HG1 : Hid (Blk wr w.heap.size #[.int .u8 kind, .int .u32 ao, .int .u32 av, .int .u8 old, .slice ba lb.length bc, .slice aa la.length ac, .slice ra rs.length rc, .int .u8 fl] 29) := Hid.mk' (HB1.out.kp hK.out (by have := HZX.out.2; omega))
      have g1 := HG1.out.cell
      have z1 := HG1.out.lt
      have gX := hX.out.cell
      have gXf := hX.out.frozen
      have zX := hX.out.lt
      have hzc := hK.out.size
      by_cases hlt : k < rs.length
      · obtain ⟨b, o, rfl, hb, hx⟩ := HR.out.at_ (i := k) (by simpa using hlt)
        have HF := Hid.mk' (fun W (h : Ext w W) => Rf.at_ hlt hx hb h)
        have HT : Hid (rs.take (k + 1) = rs.take k ++ [rs[k]]) := Hid.mk' (List.take_succ_eq_append_getElem hlt)
        obtain ⟨r, hr⟩ : ∃ r, r = rs[k] := ⟨_, rfl⟩
        rw [← hr] at HF HT
        have HLT : Hid (k < rs.length) := Hid.mk' hlt
        have HBW : Hid (b < w.heap.size) := Hid.mk' hb
        clear hx hr hb
        have HS : Hid (∀ w', Kp (fun x => wc.heap.size ≤ x) wr w' → (∀ j, w'.cell? ⟨w.heap.size, j, none⟩ = (#[.int .u8 kind, .int .u32 ao, .int .u32 av, .int .u8 old, .slice ba lb.length bc, .slice aa la.length ac, .slice (some ⟨b, o, none⟩) rs.length rc, .int .u8 fl])[j]?) ∧ (∀ j, w'.cell? ⟨X, j, none⟩ = (#[.int .u8 kind, .int .u32 ao, .int .u32 av, .int .u8 old, .slice b1 lb.length c1, .slice a1 la.length d1, .slice va k vc, .int .u8 fl])[j]?) ∧ (∀ j, w'.frozen? ⟨X, j, none⟩ = false) ∧ w'.cell? ⟨b, o + k * 2, none⟩ = some (.int .u32 r.o) ∧ w'.cell? ⟨b, o + k * 2 + 1, none⟩ = some (.int .u32 r.v) ∧ b < w'.heap.size ∧ X < w'.heap.size ∧ w.heap.size < w'.heap.size) := Hid.mk' (fun w' h => by
          have hE : Ext w w' := Kp.ext HEc.out (S := fun x => x = X ∨ wc.heap.size ≤ x) (fun x hx _ => by have := HZX.out; omega) ((hK.out.mono (T := fun x => x = X ∨ wc.heap.size ≤ x) (fun x hx _ => .inl hx)).trans h (fun x hx _ => .inr hx))
          have h1 := HG1.out.kp h (by have := HZX.out; omega)
          have h2 := hX.out.kp h (by have := HZX.out; omega)
          obtain ⟨f0, f1⟩ := HF.out w' hE
          exact ⟨h1.cell, h2.cell, h2.frozen, f0, f1, Nat.lt_of_lt_of_le HBW.out hE.size, h2.lt, h1.lt⟩)
        have HOWN := hown
        go_wp2
        clear g1 gX gXf
        have hA0 : Hid ((fun w' => (∀ j, w'.cell? ⟨w.heap.size, j, none⟩ = (#[.int .u8 kind, .int .u32 ao, .int .u32 av, .int .u8 old, .slice ba lb.length bc, .slice aa la.length ac, .slice (some ⟨b, o, none⟩) rs.length rc, .int .u8 fl])[j]?) ∧ (∀ j, w'.cell? ⟨X, j, none⟩ = (#[.int .u8 kind, .int .u32 ao, .int .u32 av, .int .u8 old, .slice b1 lb.length c1, .slice a1 la.length d1, .slice va k vc, .int .u8 fl])[j]?) ∧ (∀ j, w'.frozen? ⟨X, j, none⟩ = false) ∧ w'.cell? ⟨b, o + k * 2, none⟩ = some (.int .u32 r.o) ∧ w'.cell? ⟨b, o + k * 2 + 1, none⟩ = some (.int .u32 r.v) ∧ b < w'.heap.size ∧ X < w'.heap.size ∧ w.heap.size < w'.heap.size) wr.drew) := Hid.mk' (HS.out _ (Kp.of_ext (Ext.refl wr).drew))
        refine wp_region_head 10 (fun w' => (∀ j, w'.cell? ⟨w.heap.size, j, none⟩ = (#[.int .u8 kind, .int .u32 ao, .int .u32 av, .int .u8 old, .slice ba lb.length bc, .slice aa la.length ac, .slice (some ⟨b, o, none⟩) rs.length rc, .int .u8 fl])[j]?) ∧ (∀ j, w'.cell? ⟨X, j, none⟩ = (#[.int .u8 kind, .int .u32 ao, .int .u32 av, .int .u8 old, .slice b1 lb.length c1, .slice a1 la.length d1, .slice va k vc, .int .u8 fl])[j]?) ∧ (∀ j, w'.frozen? ⟨X, j, none⟩ = false) ∧ w'.cell? ⟨b, o + k * 2, none⟩ = some (.int .u32 r.o) ∧ w'.cell? ⟨b, o + k * 2 + 1, none⟩ = some (.int .u32 r.v) ∧ b < w'.heap.size ∧ X < w'.heap.size ∧ w.heap.size < w'.heap.size) (by kernel_rfl) (by decide) ?_
        (refine wpHd_take (i := 0) (v := ?_) rfl (by kernel_rfl) (by kernel_rfl) (by kernel_rfl) (fun _ _ _ h => h) (Or.inl ⟨by rfl, ?_⟩) hA0.out ?_; rotate_left 1; · (intro w' hS'; (try dsimp only at hS'); go_split_ands; go_simp; try with_reducible rfl))
        (refine wpHd_take (i := 1) (v := ?_) rfl (by kernel_rfl) (by kernel_rfl) (by kernel_rfl) (fun _ _ _ h => h) (Or.inl ⟨by rfl, ?_⟩) hA0.out ?_; rotate_left 1; · (intro w' hS'; (try dsimp only at hS'); go_split_ands; go_simp; try with_reducible rfl))
        (refine wpHd_take (i := 2) (v := ?_) rfl (by kernel_rfl) (by kernel_rfl) (by kernel_rfl) (fun _ _ _ h => h) (Or.inl ⟨by rfl, ?_⟩) hA0.out ?_; rotate_left 1; · (intro w' hS'; (try dsimp only at hS'); go_split_ands; go_simp; try with_reducible rfl))
        (refine wpHd_take (i := 3) (v := ?_) rfl (by kernel_rfl) (by kernel_rfl) (by kernel_rfl) (fun _ _ _ h => h) (Or.inl ⟨by rfl, ?_⟩) hA0.out ?_; rotate_left 1; · (intro w' hS'; (try dsimp only at hS'); go_split_ands; go_simp; try with_reducible rfl))
        (refine wpHd_take (i := 4) (v := ?_) rfl (by kernel_rfl) (by kernel_rfl) (by kernel_rfl) (fun _ _ _ h => h) (Or.inl ⟨by rfl, ?_⟩) hA0.out ?_; rotate_left 1; · (intro w' hS'; (try dsimp only at hS'); go_split_ands; go_simp; try with_reducible rfl))
        (refine wpHd_take (i := 5) (v := ?_) rfl (by kernel_rfl) (by kernel_rfl) (by kernel_rfl) (fun _ _ _ h => h) (Or.inl ⟨by rfl, ?_⟩) hA0.out ?_; rotate_left 1; · (intro w' hS'; (try dsimp only at hS'); go_split_ands; go_simp; try with_reducible rfl))
        (refine wpHd_take (i := 6) (v := ?_) rfl (by kernel_rfl) (by kernel_rfl) (by kernel_rfl) (fun _ _ _ h => h) (Or.inl ⟨by rfl, ?_⟩) hA0.out ?_; rotate_left 1; · (intro w' hS'; (try dsimp only at hS'); go_split_ands; go_simp; try with_reducible rfl))
        refine wpHd_one (i := 7) rfl rfl (by kernel_rfl) (fun K hK => ?_)
        go_simp
        refine (ref9_any _ _ _).mono ?_
        rintro e w7 ⟨rfl, hb7⟩
        have HB7 : Hid (Ext wr w7) := Hid.mk' ((Ext.refl wr).drew.trans hb7)
        refine hK.out _ _ (HS.out _ (Kp.of_ext HB7.out)) (fun hA => ?_)
        clear hK K hA hA0 hb7
        refine wpHd_one (i := 8) rfl rfl (by kernel_rfl) (fun K hK => ?_)
        go_simp
        refine hK.out _ _ (HS.out _ (Kp.of_ext (HB7.out.alloc _))) (fun hA => ?_)
        clear hK K hA
        refine wpHd_one (i := 9) rfl rfl (by kernel_rfl) (fun K hK => ?_)
        refine wp_append_lies _ _ _ 48 (by rfl) wc.heap.size 45 i0 _ 2 8 Tryz.underlying48 hi hz0 hz1 hz2 rfl (by decide) (.slice va k vc) k _ (by rfl) (owns_ext HOWN.out (HB7.out.alloc _)) ⟨_, 0, none⟩ 1 1 r.cells (by rfl) rfl (cells_new _ #[.int .u32 r.o, .int .u32 r.v] _) (by intro u hu; simp [Rf.cells] at hu; rcases hu with rfl | rfl <;> rfl) (by decide) (by unfold maxLen; omega) (by omega) (by have := HB7.out.size; simp; omega) _ rfl ?_
        intro g4 cap4 w4 hown4 hgrow4 hat4 hlt4
        have HO4 := Hid.mk' hown4
        have HKG : Hid (Kp (fun x => wc.heap.size ≤ x) wr w4) := Hid.mk' ((Kp.of_ext (S := fun x => wc.heap.size ≤ x) (HB7.out.alloc _)).trans (Kp.of_grown hgrow4) (fun x hx _ => (HOWN.out.lt x hx).1))
        refine hK.out _ _ (HS.out _ HKG.out) (fun hA => ?_)
        clear hK K hA hown4 hgrow4 hat4 hlt4
        have hX4 : Hid (Blk w4 X #[.int .u8 kind, .int .u32 ao, .int .u32 av, .int .u8 old, .slice b1 lb.length c1, .slice a1 la.length d1, .slice va k vc, .int .u8 fl] 50) := Hid.mk' (hX.out.kp HKG.out (by have := HZX.out; omega))
        have gX := hX4.out.cell
        have gXf := hX4.out.frozen
        have zX := hX4.out.lt
        refine wpHd_tail (by kernel_rfl) ?_
        simp only [List.drop_succ_cons, List.drop_zero]
        go_wp2
        go_roundw
        case rel =>
          refine ⟨k + 1, some ⟨g4, 0, none⟩, cap4, by have := HLT.out; omega, by go_num, Hid.mk' ?_, Hid.mk' ?_, Hid.mk' ?_⟩
          · have := hX4.out.set 6 (.slice (some ⟨g4, 0, none⟩) (k + 1) cap4)
            simpa only [List.setIfInBounds_toArray, List.set_cons_zero, List.set_cons_succ] using this
          · rw [HT.out, List.map_append, List.flatten_append]
            exact owns_set (by simpa using HO4.out) (by show X < _; have := HZX.out; omega) _
          · exact ((hK.out.mono (T := fun x => x = X) (fun x hx _ => hx)).trans (HKG.out) (fun x hx h => by omega)).trans (T := fun x => x = X) (Kp.set _ _ rfl) (fun x hx _ => hx)
        case measure => have := HLT.out; simp [intOf]; omega
      · obtain rfl : k = rs.length := by omega
        rw [List.take_length] at hown
        have HB2r : Hid (Blk wr (w.heap.size + 1) #[.int .u8 0, .int .u32 0, .int .u32 0, .int .u8 0, .slice none 0 0, .slice none 0 0, .slice none 0 0, .int .u8 0] 50) := Hid.mk' (HB2.out.kp hK.out (by have := HWX.out; omega))
        have k2 := HB2r.out.cell
        have k2f := HB2r.out.frozen
        have z2 := HB2r.out.lt
        go_wp2
        simp [bodyPost, results, Tryz.results13, go_sem, *]
        have hwr := HZX.out
        have hw2 := HWX.out
        have hSB : Sl wr (.slice b1 lb.length c1) 5 (lb.map K.pc) := Sl.kp HSB.out hK.out (fun h0 b o e => (HNB.out h0 b o e).1)
        have hSA : Sl wr (.slice a1 la.length d1) 5 (la.map K.pc) := Sl.kp HSA.out hK.out (fun h0 b o e => (HNA.out h0 b o e).1)
        have hSR : Sl wr (.slice va rs.length vc) 2 (rs.map Rf.cells) := Sl.of_owns (base := wc.heap.size) (e := 45) (by rw [List.length_map]; exact hown.out) (by intro xs hxs; simp at hxs; obtain ⟨_, _, rfl⟩ := hxs; rfl)
        refine ⟨b1, c1, a1, d1, va, vc, ⟨⟨rfl, rfl⟩, ⟨rfl, rfl⟩, rfl, rfl⟩, ⟨Sl.kp hSB Kp.eight (fun h0 b o e => by have := (HNB.out h0 b o e).2; omega), Sl.kp hSA Kp.eight (fun h0 b o e => by have := (HNA.out h0 b o e).2; omega), Sl.kp hSR Kp.eight (fun h0 b o e => by have := hown.out.lt b (by rw [show va = some ⟨b, o, none⟩ from e]; rfl); omega)⟩, ⟨fun h0 b o e => by have := (HNB.out (fun q => h0 (by simpa using q)) b o e).2; omega, fun h0 b o e => by have := (HNA.out (fun q => h0 (by simpa using q)) b o e).2; omega, fun h0 b o e => by have := hown.out.lt b (by rw [show va = some ⟨b, o, none⟩ from e]; rfl); omega⟩, Kp.ext HEW.out (fun x hx _ => by omega) Kp.eight⟩

theorem eown_el (x : EL) (w : World) (hx : x.at 6 K.rc w) (hnb : x.e.b.length ≤ 1000) (hna : x.e.a.length ≤ 1000) (hnr : x.e.rs.length ≤ 1000) :
    Calls Tryz.prog 13 #[x.agg] w fun e w' => ∃ y : EL, e = .returned y.agg ∧ y.e = x.e ∧ y.at 5 K.pc w' ∧ y.on (fun b => w.heap.size ≤ b) ∧ Ext w w' := by
  obtain ⟨⟨kind, ao, av, old, lb, la, rs, fl⟩, ba, bc, aa, ac, ra, rc⟩ := x
  refine (eown_any kind ao av old lb la rs fl ba aa ra bc ac rc w hx.b hx.a hx.r hnb hna hnr).mono fun e w' h => ?_
  obtain ⟨b1, c1, a1, d1, r1, e1, h1, h2, h3, h4⟩ := h
  exact ⟨⟨⟨kind, ao, av, old, lb, la, rs, fl⟩, b1, c1, a1, d1, r1, e1⟩, h1, rfl, h2, h3, h4⟩

end Go.Proofs.YtlobghojjfkchaaGreat
