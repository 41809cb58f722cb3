/-
A base without rows: the program's New.
-/
import Derived.Test.YtkhlgoafeacdcaaGreatP11
namespace Go.Proofs.YtkhlgoafeacdcaaGreat
open Go.RowKit Go.Maps Go.Shelf
attribute [local go_sem] Oper.semAt_some

theorem stepIn_mapUpdate {F : Fence} {n : Nat} {P : Program} {ops : Array Oper} {o : Oper} {a : Act} {w : World} {K : Act → World → Prop} {Q : Exit → Act → World → Prop} {E : Prop} (hg : o.guard = none) (m x v : Operand) (t : TypeId) (hop : o.op = Op.mapUpdate t m x v)
    (mv key val : Value) (hm : a.eval m = mv) (hx : a.eval x = key) (hv : a.eval v = val) {w' : World} (hrun : (Instr.mapUpdate t mv key val).run P w = .ok () w') (hK : K (a.put o.dst undef) w') : if Region.wanted o (yielded ops a.tmps) = true then Oper.wpIn F n P o a w K Q else E := by
  rw [if_pos (by simp [Region.wanted, hg])]
  unfold Oper.wpIn
  refine ⟨?_, ?_⟩
  · simp [Oper.about, hop]
  · rw [Oper.semAt_plain F _ _ (by rw [hop]; intro c hc'; cases hc')]
    simp [execOp, hop, hm, hx, hv, hrun, Result.andThen]
    exact hK

/-- A map of empty rows, told by refs that were given. -/
def MapN (W : World) (m n : Nat) (rs : List Rl) : Prop := ∃ D : DataW Value, W.ownsMap Tryz.prog 68 RV m (Maps.size D) D ∧ Maps.size D = n ∧ (∀ o v, B32 o → B32 v → Maps.has D (litR o v) = hasR o v rs) ∧ (∀ o v, B32 o → B32 v → D.atKey (litR o v) (.held (.slice none 0 0)) = .held (.slice none 0 0))
theorem MapN.new (w : World) : MapN (w.alloc (.map #[] 0)) w.heap.size 0 [] :=
  ⟨.map [], World.ownsMap_made w _ _ _, rfl, fun _ _ _ _ => rfl, fun _ _ _ _ => rfl⟩
theorem MapN.lt {W : World} {m n : Nat} {rs : List Rl} (h : MapN W m n rs) : m < W.heap.size := by obtain ⟨D, h1, -⟩ := h; exact h1.lt
theorem MapN.kept {W W' : World} {m n : Nat} {rs : List Rl} {row : Option Nat} (h : MapN W m n rs) (hg : W.grownBy W' row) (hne : some m ≠ row) : MapN W' m n rs := by
  obtain ⟨D, h1, h2⟩ := h
  exact ⟨D, h1.kept hg hne, h2⟩
theorem MapN.kp {W W' : World} {m n : Nat} {rs : List Rl} {S : Nat → Prop} (h : MapN W m n rs) (hk : Kp S W W') (hs : ¬ S m) : MapN W' m n rs := by
  obtain ⟨D, ⟨es, cl, hb, h1⟩, h2⟩ := h
  exact ⟨D, ⟨es, cl, (hk.block m (Array.getElem?_eq_some_iff.1 hb).1 hs).trans hb, h1⟩, h2⟩
theorem MapN.map {W : World} {m n : Nat} {rs : List Rl} (h : MapN W m n rs) (hn : n ≤ 1000 ∧ n = rs.length) : MapT W m rs (fun _ _ => []) := by
  obtain ⟨D, h1, h2, h3, h4⟩ := h
  exact ⟨D, h1, by omega, h3, fun o v ho hv => ⟨_, h4 o v ho hv, RwA.nil W⟩⟩
theorem MapN.stored {W : World} {m n : Nat} {rs : List Rl} (h : MapN W m n rs) (hn : n < 1000) {r : Rl} (ho : B32 r.oid) (hv : B32 r.ver) :
    ∃ W', (Instr.mapUpdate 91 (.map (some m)) (.agg #[.int .u32 r.oid, .int .u32 r.ver]) (.slice none 0 0)).run Tryz.prog W = .ok () W' ∧ MapN W' m (if hasR r.oid r.ver rs = true then n else n + 1) (rs ++ [r]) ∧ W.grownBy W' (some m) := by
  obtain ⟨D, h1, h2, h3, h4⟩ := h
  obtain ⟨W', hrun, how, hg⟩ := h1.update Tryz.lawRef Tryz.underlying91 (val := .slice none 0 0) (d := .held (.slice none 0 0)) (ps := []) (by unfold maxLen; omega) (keyRef ho hv) rfl
  have hk := Tryz.lawRef.key (keyRef ho hv)
  have hM := h1.isMap
  refine ⟨W', hrun, ⟨_, ownsMap_size how, ?_, fun a b ha hb => ?_, fun a b ha hb => ?_⟩, hg⟩
  · rw [Maps.size_put (h1.tidy Tryz.lawRef), h3 _ _ ho hv, h2]
  · have e : hasR a b (rs ++ [r]) = (hasR a b rs || isR a b r) := by unfold hasR; rw [List.any_append]; simp
    rw [e]
    by_cases q : a = r.oid ∧ b = r.ver
    · obtain ⟨rfl, rfl⟩ := q
      rw [Maps.has_put_same hM hk]; simp [isR]
    · rw [Maps.has_put_other (fun z => q (litR_inj ha hb ho hv z)), h3 a b ha hb]
      have : isR a b r = false := decide_eq_false (fun z => q ⟨z.1.symm, z.2.symm⟩)
      rw [this, Bool.or_false]
  · by_cases q : a = r.oid ∧ b = r.ver
    · obtain ⟨rfl, rfl⟩ := q
      exact Maps.atKey_put_same hM hk _ _
    · exact (Maps.atKey_put_other (fun z => q (litR_inj ha hb ho hv z)) _ _).trans (h4 a b ha hb)

/-- The refs of relations. -/
def rfOf (l : List Rl) : List Rf := l.map fun r => ⟨r.oid, r.ver⟩
theorem cat_step {L : List Rl} (hl : CatOk L) (pre : List Rl) {r : Rl} (hr : r ∈ L) : addL (L.filter (ofRefs (rfOf pre))) r = L.filter (ofRefs (rfOf (pre ++ [r]))) := by
  have hk : pre.length < (rfOf (pre ++ [r])).length := by unfold rfOf; simp
  have e0 : (rfOf (pre ++ [r]))[pre.length] = ⟨r.oid, r.ver⟩ := by unfold rfOf; simp
  obtain ⟨i, hi, rfl⟩ := List.getElem_of_mem hr
  have hg := hl.srt.get_at hi (o := L[i].oid) (v := L[i].ver) ⟨rfl, rfl⟩
  have h1 := only_step hl hk (r := L[i]) (by rw [e0]; exact hg)
  have e1 : (rfOf (pre ++ [L[i]])).take pre.length = rfOf pre := by unfold rfOf; rw [List.map_append, List.take_left' (by simp)]
  have e2 : (rfOf (pre ++ [L[i]])).take (pre.length + 1) = rfOf (pre ++ [L[i]]) := List.take_of_length_le (by unfold rfOf; simp)
  rw [e1, e2] at h1
  exact h1
theorem cat_len {L : List Rl} (hl : CatOk L) (pre : List Rl) {r : Rl} (hr : r ∈ L) : (L.filter (ofRefs (rfOf (pre ++ [r])))).length = if hasR r.oid r.ver pre = true then (L.filter (ofRefs (rfOf pre))).length else (L.filter (ofRefs (rfOf pre))).length + 1 := by
  have hof : ∀ (l : List Rl) (x : Rl), ofRefs (rfOf l) x = hasR x.oid x.ver l := fun l x => by
    unfold ofRefs rfOf hasR
    rw [List.any_map]
    congr 1
    funext y
    simp only [Function.comp, isR]
    exact decide_eq_decide.2 ⟨fun h => ⟨h.1.symm, h.2.symm⟩, fun h => ⟨h.1.symm, h.2.symm⟩⟩
  have hap : ∀ x : Rl, hasR x.oid x.ver (pre ++ [r]) = (hasR x.oid x.ver pre || isR x.oid x.ver r) := fun x => by unfold hasR; rw [List.any_append]; simp
  rw [← cat_step hl pre hr]
  unfold addL
  cases hh : hasR r.oid r.ver pre with
  | true =>
    have hin : hasR r.oid r.ver (L.filter (ofRefs (rfOf pre))) = true := List.any_eq_true.2 ⟨r, List.mem_filter.2 ⟨hr, by rw [hof]; exact hh⟩, by simp [isR]⟩
    rw [if_neg (show addE (L.filter (ofRefs (rfOf pre))) r ≠ 0 by unfold addE; rw [if_neg (by simpa using hl.right r hr), if_pos hin]; decide), if_pos rfl]
  | false =>
    have hnin : hasR r.oid r.ver (L.filter (ofRefs (rfOf pre))) = false := by
      unfold hasR
      rw [List.any_eq_false]
      intro x hx hq
      have h2 : x.oid = r.oid ∧ x.ver = r.ver := of_decide_eq_true hq
      obtain ⟨h3, h4⟩ := List.mem_filter.1 hx
      rw [hl.srt.uniq h3 hr h2.1 h2.2, hof, hh] at h4
      cases h4
    have hlt : (L.filter (ofRefs (rfOf pre))).length < 64 := by
      rcases Nat.lt_or_ge (L.filter (ofRefs (rfOf pre))).length 64 with h | h
      · exact h
      · have h2 := List.length_filter_le (ofRefs (rfOf pre)) L
        have h3 := hl.n64
        have h4 : L.filter (ofRefs (rfOf pre)) = L := List.filter_eq_self.2 (List.length_filter_eq_length_iff.1 (by omega))
        rw [h4] at hnin
        have h5 : hasR r.oid r.ver L = true := List.any_eq_true.2 ⟨r, hr, by simp [isR]⟩
        rw [h5] at hnin; cases hnin
    rw [if_pos (show addE (L.filter (ofRefs (rfOf pre))) r = 0 by unfold addE; rw [if_neg (by simpa using hl.right r hr), if_neg (by rw [hnin]; simp), if_neg (by omega)]), if_neg (by simp), insR_len]
theorem cat_all {L : List Rl} : L.filter (ofRefs (rfOf L)) = L := by
  rw [List.filter_eq_self]
  intro x hx
  unfold ofRefs rfOf
  rw [List.any_eq_true]
  exact ⟨⟨x.oid, x.ver⟩, List.mem_map.2 ⟨x, hx, rfl⟩, by simp [isR]⟩
theorem cat_none {L : List Rl} : L.filter (ofRefs (rfOf [])) = [] := by
  rw [List.filter_eq_nil_iff]
  intro x _
  simp [ofRefs, rfOf]

/-- What is known while relations are handed out. -/
structure NwI (w W4 : World) (N C m G V : Nat) (L : List Rl) (pre : List RR) (W : World) : Prop where
  ca : ∃ cv qs, Ca W N C cv qs ∧ qs.map RR.r = L.filter (ofRefs (rfOf (pre.map RR.r)))
  mp : MapN W m (L.filter (ofRefs (rfOf (pre.map RR.r)))).length (pre.map RR.r)
  bs : BsAt W G C m
  v : Blk W V #[.pointer (some ⟨G, 0, none⟩)] 28
  w : Below w.heap.size w W
  z : W4.heap.size ≤ W.heap.size

theorem Kp.undrew {S : Nat → Prop} {W W' : World} (h : Kp S W.drew W') : Kp S W W' := ⟨h.os, h.tape, h.output, h.size, h.block⟩
theorem own_not {W : World} {N n g : Nat} {e t : TypeId} {size : Nat} {v : Value} {xs : List Value} {cs : Array Value} (h : W.ownsRow N e size v n xs) (hb : Blk W g cs t) (hne : t ≠ e) : v.ownBlock ≠ some g := fun h2 => by
  rcases h.2 with ⟨h1, -⟩ | ⟨g2, cap, cur, h1, -, h3, -⟩
  · rw [h1] at h2; cases h2
  · rw [h1] at h2
    have e3 : g2 = g := by simpa [Value.ownBlock] using h2
    rw [e3, show W.heap[g]? = _ from hb] at h3
    simp only [Option.some.injEq, Obj.cells.injEq] at h3
    exact hne h3.2.1
theorem own_no_map {W : World} {N n m : Nat} {e : TypeId} {size : Nat} {v : Value} {xs : List Value} {es : Array MapEntry} {cl : Nat} (h : W.ownsRow N e size v n xs) (hb : W.heap[m]? = some (.map es cl)) : v.ownBlock ≠ some m := fun h2 => by
  rcases h.2 with ⟨h1, -⟩ | ⟨g2, cap, cur, h1, -, h3, -⟩
  · rw [h1] at h2; cases h2
  · rw [h1] at h2
    have e3 : g2 = m := by simpa [Value.ownBlock] using h2
    rw [e3, hb] at h3; cases h3

set_option maxRecDepth 100000 in
set_option maxHeartbeats 8000000 in
theorem tnew_in (F : Fence) (n : Nat) (hFe : F = Fence.wide) (h1F : F.fn 59) (hAF : F.fn 34) (hOF : F.fn 60) (hNF : F.fn 33) (hDF : F.fn 35) (hTF : F.fn 9) (hro : F.round = none) (hn : 4 ≤ n) (N g : Nat) (c : Value) (ps : List RR) (w : World) (hc : Ca w N g c ps) (hB : ∀ p ∈ ps, B32 p.r.oid ∧ B32 p.r.ver) :
    CallsIn F n Tryz.prog 9 #[.pointer (some ⟨g, 0, none⟩)] w fun e w' => ∃ G qs, e = .returned (.pointer (some ⟨G, 0, none⟩)) ∧ w.heap.size ≤ G ∧ Bs w' w.heap.size G qs (fun _ _ => []) ∧ qs.map RR.r = ps.map RR.r ∧ Ext w w' := by
  have h1 : 1 ≤ n := by omega
  have HC := Hid.mk' hc
  have HB := Hid.mk' hB
  have HNW := Hid.mk' (fun m W => (show CallsIn F m Tryz.prog 33 #[] W _ from by rw [hFe]; exact callsIn_wide.2 (new_any W)))
  have HAD := Hid.mk' (fun m N g c ps q W h1 h2 h3 h4 => (show CallsIn F m Tryz.prog 35 #[.pointer (some ⟨g, 0, none⟩), q.agg] W (CAddPost N g c ps q W) from by rw [hFe]; exact callsIn_wide.2 (cadd_any N g c ps q W h1 h2 h3 h4)))
  have HFE := Hid.mk' hFe
  have mixed : Tryz.prog.follows .mixedOrders = true := by kernel_rfl
  have hmm := @run_makeMap Tryz.prog
  clear hc hB hFe
  refine callsIn_of_wp_marks Tryz.func9 rfl hTF ?_ hro
  simp only [Tryz.ntmps9, List.size_toArray, List.length_cons, List.length_nil, Nat.reduceAdd, Nat.reduceSub, Array.replicate_succ, Array.replicate_zero, List.push_toArray, List.append_toArray, List.nil_append, List.cons_append]
  gi_wp2_with (first
    | (gi_at_call 33; refine (HNW.out (n - 1) _).mono ?_; rintro e w' ⟨rfl, rfl⟩)
    | (gi_at_call 34; refine (all_in F (n - 1) hAF hro _ _).mono ?_; rintro e w' ⟨rfl, rfl⟩))
  obtain ⟨W4, hW4⟩ : ∃ W4, W4 = (((((w.alloc (.cells #[.slice none 0 0] 149)).alloc (.map #[] 0)).alloc (.cells #[.pointer (some ⟨w.heap.size, 0, none⟩), .map (some (w.heap.size + 1))] 93)).alloc (.cells #[.pointer (some ⟨w.heap.size + 1 + 1, 0, none⟩)] 28)).alloc (.cells #[.pointer (some ⟨g, 0, none⟩)] 26)) := ⟨_, rfl⟩
  have hz4 : W4.heap.size = w.heap.size + 1 + 1 + 1 + 1 + 1 := by rw [hW4]; simp
  have hE4 : Ext w W4 := by rw [hW4]; exact eX
  have hCA : Ca W4 w.heap.size w.heap.size (.slice none 0 0) [] := by rw [hW4]; exact (Ca.new w).ext (by exact eX)
  have hMP : MapN W4 (w.heap.size + 1) 0 [] := by
    rw [hW4]
    have h2 := MapN.new (w.alloc (.cells #[.slice none 0 0] 149))
    rw [World.size_alloc] at h2
    exact h2.kept (row := none) (ext_grown (by exact eX)) (by simp)
  have hBS : BsAt W4 (w.heap.size + 1 + 1) w.heap.size (w.heap.size + 1) := by rw [hW4]; exact ((Blk.new' _ _ (by simp)).alloc _).alloc _
  have hV : Blk W4 (w.heap.size + 1 + 1 + 1) #[.pointer (some ⟨w.heap.size + 1 + 1, 0, none⟩)] 28 := by rw [hW4]; exact (Blk.new' _ _ (by simp)).alloc _
  have hB4 : Blk W4 (w.heap.size + 1 + 1 + 1 + 1) #[.pointer (some ⟨g, 0, none⟩)] 26 := by rw [hW4]; exact Blk.new' _ _ (by simp)
  rw [← hW4]
  have HE4 := Hid.mk' hE4
  clear hW4 hE4 hmm
  have HCO := Hid.mk' HC.out.ok
  have hI : OwnFrom W4.heap.size (NwI w W4 w.heap.size w.heap.size (w.heap.size + 1) (w.heap.size + 1 + 1) (w.heap.size + 1 + 1 + 1) (ps.map RR.r)) := by
    rintro s A B row ⟨⟨cv, qs, q1, q2⟩, q3, q4, q5, q6, q7⟩ hg hr
    have hr2 : ∀ r, row = some r → ∃ o : Obj, A.heap[r]? = some o ∧ o.isCells = false := fun r e => (hr r e).2
    have hlo : ∀ r, row = some r → W4.heap.size ≤ r := fun r e => (hr r e).1
    have hk : ∀ {b : Nat} {cs : Array Value} {t : TypeId}, Blk A b cs t → Blk B b cs t := fun {b cs t} hb => hb.kp (Kp.of_grown hg) (fun e => by
      obtain ⟨ob, ho, hn⟩ := hr2 b e
      rw [show A.heap[b]? = _ from hb] at ho; cases ho; simp [Obj.isCells] at hn)
    have hkp := Kp.of_grown hg
    refine ⟨⟨cv, qs, ?_, q2⟩, q3.kept hg (fun e => by have := hlo _ e.symm; omega), hk q4, hk q5, q6.grown hg (by omega) (fun k e => by have := hlo k e; omega), Nat.le_trans q7 hg.size⟩
    refine q1.kp hkp (fun e => by have := hlo _ e; omega) (fun b e e2 => ?_) (fun p hp h0 b o e e2 => ?_)
    · obtain ⟨ob, ho, hnc⟩ := hr2 b e2
      rcases q1.own.2 with ⟨hv, -⟩ | ⟨gg, cap, cur, hv, -, hh, -⟩
      · rw [hv] at e; cases e
      · rw [hv] at e
        have : gg = b := by simpa [Value.ownBlock] using e
        rw [this, ho] at hh; cases hh; simp [Obj.isCells] at hnc
    · obtain ⟨ob, ho, hnc⟩ := hr2 b e2
      obtain ⟨b', o2, e3, hb3, hc3⟩ := Sl.at_ (q1.sl p hp) (i := 0) (by rw [List.length_map]; exact List.length_pos_iff.2 h0)
      rw [e] at e3; cases e3
      have h5 := hc3 0 (by omega)
      unfold World.cell? at h5
      rw [ho] at h5
      cases hxx : p.r.cols with
      | nil => exact h0 hxx
      | cons d ds =>
        rw [hxx] at h5
        cases ob <;> simp [Obj.isCells, Col.cells] at hnc h5
  refine wpIn_range_told hro h1 (gf := 59) (lb := #[.pointer (some ⟨w.heap.size + 1 + 1 + 1 + 1, 0, none⟩)]) rfl h1F (enters_of Tryz.func59 (by kernel_rfl) rfl)
    (allm_told F (n - 1) HFE.out h1F hOF hro (by omega) (w.heap.size + 1 + 1 + 1 + 1) w W4 N g c ps HC.out HE4.out (hB4.cell 0) hB4.lt) (by omega) (Below.refl _ _) (fun _ => rfl)
    (NwI w W4 w.heap.size w.heap.size (w.heap.size + 1) (w.heap.size + 1 + 1) (w.heap.size + 1 + 1 + 1) (ps.map RR.r)) hI
    ⟨⟨_, [], hCA, cat_none.symm⟩, (by rw [show ([] : List RR).map RR.r = [] from rfl, cat_none]; exact hMP), hBS, hV, HE4.out, Nat.le_refl _⟩
    (fun x a' W => ∃ X Y, a' = { tmps := #[.pointer (some ⟨g, 0, none⟩), undef, .pointer none, .pointer (some ⟨w.heap.size + 1 + 1 + 1, 0, none⟩), .pointer (some ⟨X, 0, none⟩), .pointer (some ⟨Y, 0, none⟩), .pointer (some ⟨w.heap.size, 0, none⟩), .map (some (w.heap.size + 1)), .agg #[.pointer (some ⟨w.heap.size, 0, none⟩), .map (some (w.heap.size + 1))], .pointer (some ⟨w.heap.size + 1 + 1, 0, none⟩), .pointer (some ⟨g, 0, none⟩), .func (.func 59) #[] #[.pointer (some ⟨w.heap.size + 1 + 1 + 1 + 1, 0, none⟩)], .agg #[.int .u32 x.r.oid, .int .u32 x.r.ver], .agg #[.int .u32 x.r.oid, .int .u32 x.r.ver, .string x.r.nm, .int .u8 x.r.id, .slice x.a x.r.cols.length x.c], undef, undef, undef, undef, undef, undef, undef, undef, undef, undef, undef, undef], defers := [] } ∧ W4.heap.size ≤ X ∧ W4.heap.size ≤ Y ∧ Blk W X #[.int .u32 x.r.oid, .int .u32 x.r.ver] 68 ∧ Blk W Y #[.int .u32 x.r.oid, .int .u32 x.r.ver, .string x.r.nm, .int .u8 x.r.id, .slice x.a x.r.cols.length x.c] 99 ∧ x.in W ∧ x.r.cols.length ≤ 1000 ∧ x.r ∈ ps.map RR.r ∧ x.r.cols.length ≤ x.c)
    ?hAx ?assign ?body ?done
  case hAx =>
    rintro x a' W l o' ⟨X, Y, q1, q2, q3, q4, q5, q6, q7, q8, q9⟩ hl ⟨ob, hob, hnc⟩
    have hg := grownBy_putObj' W l o'
    have hk : ∀ {b : Nat} {cs : Array Value} {t : TypeId}, Blk W b cs t → Blk (W.putObj l o') b cs t := fun {b cs t} hb => hb.kp (Kp.of_grown hg) (fun e => by
      injection e with e
      subst e
      rw [show W.heap[l]? = _ from hb] at hob; cases hob; simp [Obj.isCells] at hnc)
    refine ⟨X, Y, q1, q2, q3, hk q4, hk q5, Sl.kp q6 (Kp.of_grown hg) (fun h0 b o e e2 => ?_), q7, q8, q9⟩
    injection e2 with e2
    subst e2
    obtain ⟨b', o2, e3, hb3, hc3⟩ := Sl.at_ q6 (i := 0) (List.length_pos_iff.2 h0)
    rw [e] at e3; cases e3
    have h5 := hc3 0 (by omega)
    unfold World.cell? at h5
    rw [show W.heap[l]? = some ob from hob] at h5
    cases hxx : x.r.cols with
    | nil => rw [hxx] at h0; exact h0 rfl
    | cons d ds =>
      rw [hxx] at h5
      cases ob <;> simp [Obj.isCells, Col.cells] at hnc h5
  case assign =>
    rintro l pre x W K ⟨⟨cv, qs, q1, q2⟩, q3, q4, q5, q6, q7⟩ ⟨hx1, hx2, hx3, hx4⟩ hK
    unfold encA
    rw [fold_two]
    gi_wp2
    have hEW : Ext W ((W.alloc (.cells #[.int .u32 x.r.oid, .int .u32 x.r.ver] 68)).alloc (.cells #[.int .u32 x.r.oid, .int .u32 x.r.ver, .string x.r.nm, .int .u8 x.r.id, .slice x.a x.r.cols.length x.c] 99)) := by exact eX
    exact hK _ _ (((KeepsOthers.alloc _ _).trans (KeepsOthers.alloc _ _)).from _) (hEW.mono (by omega)) ⟨⟨cv, qs, q1.ext hEW, q2⟩, q3.kept (row := none) (ext_grown hEW) (by simp), q4.ext hEW, q5.ext hEW, q6.trans (hEW.mono (by omega)), by simp; omega⟩
      ⟨W.heap.size, W.heap.size + 1, rfl, q7, by omega, (Blk.new _ _ _).alloc _, Blk.new' _ _ (by simp), hx1.ext hEW, hx2, hx3, hx4⟩
  case body =>
    rintro l pre x a' W ⟨⟨cv, qs, q1, q2⟩, q3, q4, q5, q6, q7⟩ hlen ⟨X, Y, rfl, hX, hY, hbX, hbY, hxi, hxn, hxm, hxc⟩
    have h11 : 1 ≤ n - 1 - 1 := by omega
    have hn64 := HC.out.n64
    obtain ⟨p0, hp0, hpe⟩ := List.mem_map.1 hxm
    have hb32 : B32 x.r.oid ∧ B32 x.r.ver := by rw [← hpe]; exact HB.out p0 hp0
    have hwb : x.r.wb := by rw [← hpe]; exact HC.out.wb p0 hp0
    have HFIN : Hid (∀ (w5 w6 : World) (cv' : Value) (q' : RR), q'.r = x.r → Ca w5 w.heap.size w.heap.size cv' (addP qs q') → Kp (Ca.S w.heap.size cv) W w5 → MapN w6 (w.heap.size + 1) (if hasR x.r.oid x.r.ver (pre.map RR.r) = true then ((ps.map RR.r).filter (ofRefs (rfOf (pre.map RR.r)))).length else ((ps.map RR.r).filter (ofRefs (rfOf (pre.map RR.r)))).length + 1) (pre.map RR.r ++ [x.r]) → w5.grownBy w6 (some (w.heap.size + 1)) →
        goesOn W4.heap.size w.heap.size (NwI w W4 w.heap.size w.heap.size (w.heap.size + 1) (w.heap.size + 1 + 1) (w.heap.size + 1 + 1 + 1) (ps.map RR.r)) (pre ++ [x]) W .normal { tmps := #[], defers := [] } w6) := Hid.mk' (fun w5 w6 cv' q' hqr hca hkp hm hg => by
      obtain ⟨D, ⟨es, cl, hbm, -⟩, -⟩ := id q3
      have nm : ¬ Ca.S w.heap.size cv (w.heap.size + 1) := fun h => h.elim (fun e => by omega) (fun e => own_no_map q1.own hbm e)
      have ng : ¬ Ca.S w.heap.size cv (w.heap.size + 1 + 1) := fun h => h.elim (fun e => by omega) (fun e => own_not q1.own q4 (by decide) e)
      have nv : ¬ Ca.S w.heap.size cv (w.heap.size + 1 + 1 + 1) := fun h => h.elim (fun e => by omega) (fun e => own_not q1.own q5 (by decide) e)
      have k6 : Kp (fun k => k = w.heap.size + 1) w5 w6 := (Kp.of_grown hg).mono (fun x hx _ => by injection hx with hx; exact hx.symm)
      have hbm5 : w5.heap[w.heap.size + 1]? = some (.map es cl) := (hkp.block _ (Array.getElem?_eq_some_iff.1 hbm).1 nm).trans hbm
      have kall : Kp (fun k => Ca.S w.heap.size cv k ∨ k = w.heap.size + 1) W w6 := (hkp.mono (T := fun k => Ca.S w.heap.size cv k ∨ k = w.heap.size + 1) (fun x hx _ => .inl hx)).trans k6 (fun x hx _ => .inr hx)
      have hca6 : Ca w6 w.heap.size w.heap.size cv' (addP qs q') := hca.kp k6 (fun e => by omega) (fun b e e2 => by rw [e2] at e; exact own_no_map hca.own hbm5 e) (fun p hp h0 b o e e2 => by
        obtain ⟨b', o2, e3, hb3, hc3⟩ := Sl.at_ (hca.sl p hp) (i := 0) (by rw [List.length_map]; exact List.length_pos_iff.2 h0)
        rw [e] at e3; cases e3
        have h5 := hc3 0 (by omega)
        unfold World.cell? at h5
        rw [show b = _ from e2, hbm5] at h5
        cases hxx : p.r.cols with
        | nil => exact h0 hxx
        | cons d ds => rw [hxx] at h5; simp [Col.cells] at h5)
      have hS : ∀ k, (Ca.S w.heap.size cv k ∨ k = w.heap.size + 1) → w.heap.size ≤ k := fun k hk => hk.elim (fun h => q1.S_ge k h) (fun h => by omega)
      refine ⟨⟨kall.size, fun k ob hk hob hnc => (kall.block k (Array.getElem?_eq_some_iff.1 hob).1 (fun hs => ?_)).trans hob⟩, ⟨kall.os, kall.tape, kall.output, kall.size, fun k hk => kall.block k (by have := q6.size; omega) (fun hs => by have := hS k hs; omega)⟩, ⟨⟨cv', addP qs q', hca6, ?_⟩, ?_, ?_, ?_, ?_, Nat.le_trans q7 kall.size⟩⟩
      · rcases hs with (hs | hs) | hs
        · omega
        · rcases q1.own.2 with ⟨hv, -⟩ | ⟨gg, cap, cur, hv, -, hh, -⟩
          · rw [hv] at hs; cases hs
          · rw [hv] at hs
            have : gg = k := by simpa [Value.ownBlock] using hs
            subst this
            rw [hh] at hob; cases hob; simp [Obj.isCells] at hnc
        · omega
      · rw [addP_r, q2, hqr, List.map_append]
        exact cat_step HCO.out (pre.map RR.r) hxm
      · rw [List.map_append, show [x].map RR.r = [x.r] from rfl, cat_len HCO.out (pre.map RR.r) hxm]; exact hm
      · exact Blk.kp (g := w.heap.size + 1 + 1) q4 kall (fun h => h.elim ng (fun e => by omega))
      · exact q5.kp kall (fun h => h.elim nv (fun e => by omega))
      · exact Kp.ext q6 (fun x hs hx => hS x hs) kall)
    obtain ⟨⟨oid, ver, nm0, id, cols⟩, a2, c2⟩ := x
    simp only at hbX hbY hxn hxm hxc hb32 HFIN ⊢
    have HA := Hid.mk' (fun W' (h : Ext W W') => HAD.out (n - 1 - 1 - 1) w.heap.size w.heap.size cv qs (⟨⟨oid, ver, nm0, id, cols⟩, a2, c2⟩ : RR) W' (q1.ext h) (hxi.ext h) hxc hwb)
    unfold RR.agg at HA
    simp only at HA
    have g0 := q5.cell
    have gz := q5.lt
    have b0 := q4.cell0
    have bz := Blk.lt q4
    have gY := hbY.cell
    have gYz := hbY.lt
    have HX := Hid.mk' hbX
    have HQ4 := Hid.mk' q4
    have HQ5 := Hid.mk' q5
    have HQ3 := Hid.mk' q3
    have HQ1 := Hid.mk' q1.own
    have hXw : w.heap.size < X := by omega
    clear hbX hbY hxi hxm hwb hpe q4 q5 q1 q2 q3 hz4
    gi_wp2
    gi_region_with_o (first | (gi_at_call 35; refine (CallsIn.inRound l (HA.out _ (by exact eX))).mono ?_; rintro e w5 ⟨cv', q', rfl, hqr, hca, hkp, hnew⟩; have HQR := Hid.mk' hqr; have HCA := Hid.mk' hca; have HKP := Hid.mk' (Kp.undrew hkp); clear hqr hca hkp hnew))
    all_goals
      have nm : ¬ Ca.S w.heap.size cv (w.heap.size + 1) := by
        obtain ⟨D, ⟨es, cl, hbm, -⟩, -⟩ := HQ3.out
        exact fun h => h.elim (fun e => by omega) (fun e => own_no_map HQ1.out hbm e)
      have hB5 := Blk.kp (g := w.heap.size + 1 + 1) HQ4.out HKP.out (fun h => h.elim (fun e => by omega) (fun e => own_not HQ1.out HQ4.out (by decide) e))
      have hV5 := HQ5.out.kp HKP.out (fun h => h.elim (fun e => by omega) (fun e => own_not HQ1.out HQ5.out (by decide) e))
      have hX5 := HX.out.kp HKP.out (fun h => h.elim (fun e => by omega) (fun e => own_not HQ1.out HX.out (by decide) e))
      have hM5 := HQ3.out.kp HKP.out nm
      obtain ⟨w6, hrun, hm6, hg6⟩ := MapN.stored (W := w5.drew) hM5 (r := ⟨oid, ver, nm0, id, cols⟩) (by have h1 := List.length_filter_le (ofRefs (rfOf (pre.map RR.r))) (ps.map RR.r); rw [List.length_map] at h1; omega) hb32.1 hb32.2
      have HM6 := Hid.mk' hm6
      have HG6 := Hid.mk' (show w5.grownBy w6 (some (w.heap.size + 1)) from ⟨hg6.os, hg6.tape, hg6.output, hg6.size, hg6.block⟩)
      have k0 := hV5.cell
      have kz := hV5.lt
      have j0 := hB5.cell
      have jz := hB5.lt
      have i0 := hX5.cell
      have iz := hX5.lt
      simp only at hrun
      clear g0 gz b0 bz gY gYz hm6 hg6 hB5 hV5 hX5 nm
      gi_wp2
      gi_region_with_o (first | (refine stepIn_mapUpdate rfl _ _ _ 91 rfl _ _ _ (by rfl) (by rfl) (by rfl) hrun ?_))
      all_goals
        gi_wp2
        exact HFIN.out w5 w6 cv' q' HQR.out HCA.out HKP.out HM6.out HG6.out
  case done =>
    intro D xs W hD hys hall hK
    obtain ⟨⟨cv, qs, q1, q2⟩, q3, q4, q5, q6, q7⟩ := hI.putObj (.deferred none) hall hD hK rfl
    have g5 := hall.v.cell
    have g5z := hall.v.lt
    have hxl : xs.length = ps.length := by have h1 := congrArg List.length hys; simpa using h1
    have hn64 := HC.out.n64
    gi_wp2
    refine ⟨by simp, .inl ⟨_, _, rfl, run_takeDeferred hK, ?_⟩⟩
    refine ⟨.pointer (some ⟨w.heap.size + 1 + 1, 0, none⟩), ?_, w.heap.size + 1 + 1, qs, rfl, by omega, ⟨w.heap.size, cv, w.heap.size + 1, q4, q1, ?_⟩, ?_, q6⟩
    · simp [results, Tryz.f9, go_sem]
    · have h1 := q3.map (by rw [hys, cat_all, List.length_map]; omega)
      rw [hys] at h1
      rw [q2, hys, cat_all]
      exact h1
    · rw [q2, hys, cat_all]

theorem tnew_any (N g : Nat) (c : Value) (ps : List RR) (w : World) (hc : Ca w N g c ps) (hB : ∀ p ∈ ps, B32 p.r.oid ∧ B32 p.r.ver) :
    Calls Tryz.prog 9 #[.pointer (some ⟨g, 0, none⟩)] w fun e w' => ∃ G qs, e = .returned (.pointer (some ⟨G, 0, none⟩)) ∧ w.heap.size ≤ G ∧ Bs w' w.heap.size G qs (fun _ _ => []) ∧ qs.map RR.r = ps.map RR.r ∧ Ext w w' :=
  callsIn_wide.1 (tnew_in Fence.wide 4 rfl trivial trivial trivial trivial trivial trivial rfl (Nat.le_refl _) N g c ps w hc hB)

end Go.Proofs.YtkhlgoafeacdcaaGreat

/-
The example of tables, in plain words.
-/
namespace Go.Proofs.YtkhlgoafeacdcaaGreat
open Go.RowKit

def aw22 : Rl := ⟨1, 1, ⟨#[116]⟩, 1, [⟨⟨#[97]⟩, 2, true⟩]⟩
def aw22r : List K := [⟨2, ⟨2, 1, 0, 0, ⟨#[]⟩⟩⟩]
def aw22e : Ev := ⟨4, 1, 1, 0, [], aw22r, [], 0⟩
theorem aw22_up : ofUp [aw22] 1 = [aw22] := by rfl
theorem aw22_ofE : ofE [aw22] = 0 := by decide
theorem aw22_ofPl : ofPl [aw22] = 1 := by decide
theorem aw22_wb : aw22.wb := ⟨by show 1 ≤ 9223372036854775807; omega, by intro c hc; simp [aw22] at hc; subst hc; show 1 ≤ 9223372036854775807; omega, by show 1 ≤ 5864062014634; omega, by decide⟩
theorem aw22_full : isFullE aw22r aw22 = 0 := by decide
theorem aw22_img : imgE aw22 4 0 [] aw22r = 0 := by
  unfold imgE
  rw [if_neg (by decide), if_neg (by decide), if_neg (by decide), if_neg (by decide), if_neg (by decide), if_neg (by decide), if_neg (by decide), if_neg (by decide), if_neg (by rw [aw22_full]; decide), if_neg (by decide), if_neg (by decide)]
theorem aw22_own : ownB aw22e = true := by
  unfold ownB
  exact evB_true.2 rfl
theorem aw22_get : getR 1 1 [aw22] = some aw22 := by rfl
theorem aw22_ev : evE aw22e [aw22] = 0 := by
  unfold evE
  rw [if_neg (by decide), if_neg (by rw [aw22_own]; simp), if_neg (by decide)]
  rw [show getR aw22e.ao aw22e.av [aw22] = some aw22 from rfl]
  exact aw22_img
theorem aw22_rt {n : Nat} (hn : n ≤ 512) : rtE ⟨1, 0, List.replicate n aw22e⟩ [aw22] = 0 :=
  rt_from (show (1 : Int) ≠ 0 by decide) (by simpa using hn) (fun e he => by rw [List.eq_of_mem_replicate he]; exact aw22_ev)
theorem aw22_key : keyQ aw22.cols aw22r aw22r = true := by unfold keyQ; exact rowB_true.2 rfl
theorem aw22_t0 : takenB aw22.cols [] aw22r (-1) = false := by
  unfold takenB byKeyI
  rfl
theorem aw22_t1 : takenB aw22.cols [aw22r] aw22r (-1) = true := by
  unfold takenB byKeyI
  rw [show idxI (fun i => decide ((i : Int) ≠ -1) && keyQ aw22.cols ([aw22r].getD i []) aw22r) [aw22r].length = 0 from idxI_at (k := 0) (fun i hi => by omega) (by show (decide (((0 : Nat) : Int) ≠ -1) && keyQ aw22.cols aw22r aw22r) = true; rw [aw22_key]; rfl) (by decide)]
  rfl
theorem aw22_e0 : rowsE aw22.cols [] aw22e = 0 := by unfold rowsE; rw [if_pos (show aw22e.kind = 4 from rfl), show takenB aw22.cols [] aw22e.a (-1) = false from aw22_t0]; rfl
theorem aw22_e1 : rowsE aw22.cols [aw22r] aw22e = 9 := by unfold rowsE; rw [if_pos (show aw22e.kind = 4 from rfl), show takenB aw22.cols [aw22r] aw22e.a (-1) = true from aw22_t1]; rfl
theorem aw22_l0 : rowsL aw22.cols [] aw22e = [aw22r] := by unfold rowsL; rw [if_neg (by rw [aw22_e0]; simp), if_pos (show aw22e.kind = 4 from rfl)]; rfl
theorem aw22_x0 : evX [aw22] T0 aw22e = 0 := by
  unfold evX
  rw [if_neg (by decide), show getR aw22e.ao aw22e.av [aw22] = some aw22 from rfl]
  exact aw22_e0
theorem aw22_T1 : evT [aw22] T0 aw22e = T0.put 1 1 [aw22r] := by
  unfold evT
  rw [if_neg (by decide), show getR aw22e.ao aw22e.av [aw22] = some aw22 from rfl]
  show T0.put 1 1 (rowsL aw22.cols [] aw22e) = _
  rw [aw22_l0]
theorem aw22_x1 : evX [aw22] (T0.put 1 1 [aw22r]) aw22e = 9 := by
  unfold evX
  rw [if_neg (by decide), show getR aw22e.ao aw22e.av [aw22] = some aw22 from rfl]
  show rowsE aw22.cols ((T0.put 1 1 [aw22r]) 1 1) aw22e = 9
  rw [show (T0.put 1 1 [aw22r]) 1 1 = [aw22r] from by unfold Tb.put; rw [if_pos ⟨rfl, rfl⟩]]
  exact aw22_e1
/-- Twice the same row: nothing is done. -/
theorem aw22_two : apE [aw22] T0 ⟨1, 0, [aw22e, aw22e]⟩ = 9 ∧ apP [aw22] T0 ⟨1, 0, [aw22e, aw22e]⟩ = 1 ∧ apT [aw22] T0 ⟨1, 0, [aw22e, aw22e]⟩ = T0 := by
  have h0 : ∀ i, i < 1 → evXat [aw22] T0 [aw22e, aw22e] i = 0 := fun i hi => by
    obtain rfl : i = 0 := by omega
    rw [evXat_at (by decide)]
    exact aw22_x0
  have h1 : evXat [aw22] T0 [aw22e, aw22e] 1 = 9 := by
    rw [evXat_at (by decide), stT_succ (by decide)]
    show evX [aw22] (evT [aw22] T0 aw22e) aw22e = 9
    rw [aw22_T1]
    exact aw22_x1
  obtain ⟨e1, e2, e3⟩ := ap_bad (ps := [aw22]) (T := T0) (t := ⟨1, 0, [aw22e, aw22e]⟩) (k := 1) (aw22_rt (n := 2) (by decide)) h0 (by decide) (by show evXat [aw22] T0 [aw22e, aw22e] 1 ≠ 0; rw [h1]; decide)
  exact ⟨e1.trans h1, e2, e3⟩
theorem aw22_one : apE [aw22] T0 ⟨1, 0, [aw22e]⟩ = 0 ∧ apP [aw22] T0 ⟨1, 0, [aw22e]⟩ = -1 ∧ apT [aw22] T0 ⟨1, 0, [aw22e]⟩ = T0.put 1 1 [aw22r] := by
  obtain ⟨e1, e2, e3⟩ := ap_good (ps := [aw22]) (T := T0) (t := ⟨1, 0, [aw22e]⟩) (aw22_rt (n := 1) (by decide)) (fun i hi => by
    obtain rfl : i = 0 := by simp at hi; omega
    show evXat [aw22] T0 [aw22e] 0 = 0
    rw [evXat_at (by decide)]
    exact aw22_x0)
  refine ⟨e1, e2, e3.trans ?_⟩
  show stT [aw22] T0 [aw22e] 1 = _
  rw [stT_succ (by decide)]
  exact aw22_T1
theorem aw22_small : aw22e.small := ⟨by decide, by decide, by decide⟩
theorem aw22_wk : aw22e.wk := ⟨(fun c hc => by cases hc), (fun c hc => by
  have h1 : c = ⟨2, ⟨2, 1, 0, 0, ⟨#[]⟩⟩⟩ := by simpa [aw22e, aw22r] using hc
  subst h1
  exact ⟨by decide, Nat.zero_le _⟩), by decide⟩

end Go.Proofs.YtkhlgoafeacdcaaGreat

/-
The laws' Own of a row, as a row that can be written.
-/
namespace Go.Proofs.YtkhlgoafeacdcaaGreat
open Go.RowKit

set_option maxRecDepth 100000 in set_option maxHeartbeats 1600000 in
theorem ownK_own (l : List K) (a : Option Addr) (cap : Nat) (w : World) (hl : Sl w (.slice a l.length cap) 6 (l.map K.rc)) (hlen : l.length ≤ 1000) :
    Calls Tryz.prog 24 #[.slice a l.length cap] w fun e w' => ∃ a' cap', e = .returned (.slice a' l.length cap') ∧ w'.ownsRow w.heap.size 124 5 (.slice a' l.length cap') l.length ((l.map K.pc).flatten) ∧ Ext w w' := by
  have HL := Hid.mk' hl
  clear hl
  obtain ⟨i0, hi, hz0, hz1, hz2⟩ := info_parts Tryz.infoCellP
  go_enter Tryz.func24, Tryz.ntmps24
  go_wp2
  go_loopw [3, 4] (fun v i wr => ∃ k : Nat, k ≤ l.length ∧ i = .int .i64 k ∧ Hid (wr.ownsRow w.heap.size 124 5 v k ((l.map K.pc).take k).flatten) ∧ Hid (Ext w wr)) (fun _ i _ => l.length - (intOf i).toNat)
  case atStart => exact ⟨0, Nat.zero_le _, rfl, World.ownsRow_nil _ _ _ _, Ext.refl _⟩
  case round =>
    obtain ⟨k, hk, rfl, hown, hE⟩ := hrel
    by_cases hlt : k < l.length
    · obtain ⟨b, o, rfl, hb, hx⟩ := HL.out.at_ (i := k) (by simpa using hlt)
      obtain ⟨f0, f1, f2, f3, f4, f5⟩ := K.rcAt hlt hx hb hE.out
      have hbw : b < wr.heap.size := Nat.lt_of_lt_of_le hb hE.out.size
      have HT := Hid.mk' (flat_snoc (f := K.pc) hlt)
      have HC := Hid.mk' (fun w => cown_any l[k].k l[k].v.ty l[k].v.n l[k].v.x l[k].v.y l[k].v.s w)
      simp only [Int.toNat_natCast] at HC
      obtain ⟨c, hc⟩ : ∃ c, c = l[k] := ⟨_, rfl⟩
      rw [← hc] at f0 f1 f2 f3 f4 f5 HT HC
      clear hc hx
      go_wp2_with (first
        | (go_at_call 52; refine (HC.out _).mono ?_; rintro e w1 ⟨rfl, hb1⟩; have HB1 := Hid.mk' hb1; have hz1' := hb1.size; clear hb1)
        | (at_builtin; refine wpList_append_own _ rfl _ _ 71 rfl w.heap.size 124 i0 _ 5 56 Tryz.underlying71 hi hz0 hz1 hz2 rfl (by decide) _ _ _ rfl ((owns_ext hown.out HB1.out).alloc _) ⟨_, 0, none⟩ 1 1 c.pc rfl rfl ?c1 ?c2 ?c3 ?c4 ?c5 ?_))
      case c1 => exact cells_new _ #[.int .u8 c.k, .int .u8 c.v.ty, .int .i64 c.v.n, .complex .f64 c.v.x c.v.y, .string c.v.s] _
      case c2 => intro u hu; simp [K.pc] at hu; rcases hu with rfl | rfl | rfl | rfl | rfl <;> rfl
      case c3 => unfold maxLen; omega
      case c4 => omega
      case c5 => have := (hE.out.trans HB1.out).size; simp; omega
      · intro v' w2 hown' hgrow _
        have HE2 := Hid.mk' (((hE.out.trans HB1.out).alloc _).grown ((owns_ext hown.out HB1.out).alloc _) hgrow)
        have HO2 := Hid.mk' hown'
        clear hown' hgrow
        go_wp2
        go_roundw
        case rel => exact ⟨k + 1, by omega, by go_num, Hid.mk' (by rw [HT.out]; exact HO2.out), HE2⟩
        case measure => simp [intOf]; omega
    · have hkk : k = l.length := by omega
      subst hkk
      rw [show l.length = (l.map K.pc).length by simp, List.take_length] at hown
      rw [List.length_map] at hown
      obtain ⟨a', c', rfl⟩ := owns_shape hown.out
      go_wp2
      go_ret
      exact ⟨a', c', rfl, hown.out, hE.out⟩

theorem ownK_at (l : List K) (a : Option Addr) (cap : Nat) (w : World) (hl : Sl w (.slice a l.length cap) 6 (l.map K.rc)) (hlen : l.length ≤ 1000) (h0 : l.length ≠ 0) :
    Calls Tryz.prog 24 #[.slice a l.length cap] w fun e w' => ∃ g cap', e = .returned (.slice (some ⟨g, 0, none⟩) l.length cap') ∧ l.length ≤ cap' ∧ w.heap.size ≤ g ∧ RowAt w' g l ∧ Ext w w' := by
  refine (ownK_own l a cap w hl hlen).mono ?_
  rintro e w' ⟨a', c', rfl, ho, hE⟩
  rcases ho.2 with ⟨-, h1⟩ | ⟨g, cap', cur, hv, hg, -, hn, -⟩
  · exact absurd h1 h0
  · simp only [Value.slice.injEq] at hv
    obtain ⟨rfl, -, rfl⟩ := hv
    exact ⟨g, _, rfl, hn, hg, RowAt.of_owns ho rfl, hE⟩

theorem RowAt.setV {W : World} {g : Nat} {ks : List K} (h : RowAt W g ks) {i : Nat} (hi : i < ks.length) (v : V) :
    RowAt ((((W.setCell ⟨g, i * 5 + 1, none⟩ (.int .u8 v.ty)).setCell ⟨g, i * 5 + 2, none⟩ (.int .i64 v.n)).setCell ⟨g, i * 5 + 3, none⟩ (.complex .f64 v.x v.y)).setCell ⟨g, i * 5 + 4, none⟩ (.string v.s)) g (ks.set i ⟨ks[i].k, v⟩) := by
  obtain ⟨cs, hb, hs, hx⟩ := h
  refine ⟨_, (((hb.set _ _).set _ _).set _ _).set _ _, by simpa using hs, fun q hq j hj => ?_⟩
  have hq2 : q < ks.length := by rwa [List.length_set] at hq
  simp only [Array.getElem?_setIfInBounds, Array.size_setIfInBounds]
  by_cases e : q = i
  · subst e
    rw [List.getElem_set_self]
    have h0 := hx q hq2 0 (by omega)
    have : j = 0 ∨ j = 1 ∨ j = 2 ∨ j = 3 ∨ j = 4 := by omega
    rcases this with rfl | rfl | rfl | rfl | rfl
    · rw [if_neg (by omega), if_neg (by omega), if_neg (by omega), if_neg (by omega), h0]; rfl
    all_goals
      simp [K.pc]
      (try omega)
  · rw [List.getElem_set_ne (Ne.symm e), ← hx q hq2 j hj]
    rw [if_neg (by omega), if_neg (by omega), if_neg (by omega), if_neg (by omega)]

end Go.Proofs.YtkhlgoafeacdcaaGreat

/-
The awake of the laws of tables.
-/
namespace Go.Proofs.YtkhlgoafeacdcaaGreat
open Go.RowKit

theorem aw22_el {W : World} {g c1 : Nat} (h : Sl W (.slice (some ⟨g, 0, none⟩) 1 c1) 5 (aw22r.map K.pc)) : EL.at 5 K.pc W ⟨aw22e, none, 0, some ⟨g, 0, none⟩, c1, none, 0⟩ := ⟨nilRowP _, h, ⟨none, 0, rfl, .inl rfl⟩⟩
theorem aw22_es1 {W : World} {g c1 : Nat} (h : Sl W (.slice (some ⟨g, 0, none⟩) 1 c1) 5 (aw22r.map K.pc)) : ES 5 K.pc (W.alloc (.cells #[.int .u8 4, .int .u32 1, .int .u32 1, .int .u8 0, .slice none 0 0, .slice (some ⟨g, 0, none⟩) 1 c1, .slice none 0 0, .int .u8 0] 103)) (.slice (some ⟨W.heap.size, 0, none⟩) 1 1) [(⟨aw22e, none, 0, some ⟨g, 0, none⟩, c1, none, 0⟩ : EL)] :=
  ⟨Sl.new W #[.int .u8 4, .int .u32 1, .int .u32 1, .int .u8 0, .slice none 0 0, .slice (some ⟨g, 0, none⟩) 1 c1, .slice none 0 0, .int .u8 0] 103 8 1 1 _ rfl (EL.len _) rfl, fun x hx => by
    obtain rfl : x = (⟨aw22e, none, 0, some ⟨g, 0, none⟩, c1, none, 0⟩ : EL) := by simpa using hx
    exact aw22_el (h.ext ((Ext.refl _).alloc _))⟩
theorem aw22_es2 {W : World} {g c1 : Nat} (h : Sl W (.slice (some ⟨g, 0, none⟩) 1 c1) 5 (aw22r.map K.pc)) : ES 5 K.pc (W.alloc (.cells #[.int .u8 4, .int .u32 1, .int .u32 1, .int .u8 0, .slice none 0 0, .slice (some ⟨g, 0, none⟩) 1 c1, .slice none 0 0, .int .u8 0, .int .u8 4, .int .u32 1, .int .u32 1, .int .u8 0, .slice none 0 0, .slice (some ⟨g, 0, none⟩) 1 c1, .slice none 0 0, .int .u8 0] 103)) (.slice (some ⟨W.heap.size, 0, none⟩) 2 2) [(⟨aw22e, none, 0, some ⟨g, 0, none⟩, c1, none, 0⟩ : EL), (⟨aw22e, none, 0, some ⟨g, 0, none⟩, c1, none, 0⟩ : EL)] :=
  ⟨Sl.new W #[.int .u8 4, .int .u32 1, .int .u32 1, .int .u8 0, .slice none 0 0, .slice (some ⟨g, 0, none⟩) 1 c1, .slice none 0 0, .int .u8 0, .int .u8 4, .int .u32 1, .int .u32 1, .int .u8 0, .slice none 0 0, .slice (some ⟨g, 0, none⟩) 1 c1, .slice none 0 0, .int .u8 0] 103 8 2 2 _ rfl (EL.len _) rfl, fun x hx => by
    obtain rfl : x = (⟨aw22e, none, 0, some ⟨g, 0, none⟩, c1, none, 0⟩ : EL) := by simpa using hx
    exact aw22_el (h.ext ((Ext.refl _).alloc _))⟩
theorem aw22_all {g c1 : Nat} {l : List EL} (hl : ∀ x ∈ l, x = (⟨aw22e, none, 0, some ⟨g, 0, none⟩, c1, none, 0⟩ : EL)) : (∀ e ∈ l, e.e.small) ∧ ∀ e ∈ l, e.e.wk := ⟨fun e he => by rw [hl e he]; exact aw22_small, fun e he => by rw [hl e he]; exact aw22_wk⟩
theorem aw22_len0 : lenT [aw22] T0 = 0 := rfl
theorem aw22_len1 : lenT [aw22] (T0.put 1 1 [aw22r]) = 1 := by decide
theorem Sl.bs {W W' : World} {N G : Nat} {ps : List RR} {T : Tb} {v : Value} {l : List K} (h : Sl W v 5 (l.map K.pc)) (hb : Bs W N G ps T) (hk : Kp (fun x => x = G) W W') : Sl W' v 5 (l.map K.pc) := by
  obtain ⟨cat, cv, m, hat, -, -⟩ := hb
  refine h.base hat hk (by omega) (fun xs hx => ?_)
  obtain ⟨q, -, rfl⟩ := List.mem_map.1 hx
  exact ⟨_, rfl, rfl⟩
theorem T0_ok (n : Nat) : TbOk T0 n := ⟨fun _ _ => Nat.zero_le _, fun _ _ x hx => by cases hx⟩

set_option maxRecDepth 100000 in set_option maxHeartbeats 8000000 in
theorem awake22_any (w : World) : Calls Tryz.prog 13 #[] w fun e w' => e = .returned (.bool true) ∧ Ext w w' := by
  have HOF := Hid.mk' (cof_any [⟨aw22, some ⟨w.heap.size, 0, none⟩, 1⟩] (some ⟨(((w.alloc (.cells #[.string ⟨#[97]⟩, .int .u8 2, .bool true] 115)).alloc (.cells #[.int .u32 1, .int .u32 1, .string ⟨#[116]⟩, .int .u8 1, .slice (some ⟨w.heap.size, 0, none⟩) 1 1] 99))).heap.size, 0, none⟩) 1 ((((w.alloc (.cells #[.string ⟨#[97]⟩, .int .u8 2, .bool true] 115)).alloc (.cells #[.int .u32 1, .int .u32 1, .string ⟨#[116]⟩, .int .u8 1, .slice (some ⟨w.heap.size, 0, none⟩) 1 1] 99)).alloc (.cells #[.int .u32 1, .int .u32 1, .string ⟨#[116]⟩, .int .u8 1, .slice (some ⟨w.heap.size, 0, none⟩) 1 1] 99)))
    ⟨Sl.new (((w.alloc (.cells #[.string ⟨#[97]⟩, .int .u8 2, .bool true] 115)).alloc (.cells #[.int .u32 1, .int .u32 1, .string ⟨#[116]⟩, .int .u8 1, .slice (some ⟨w.heap.size, 0, none⟩) 1 1] 99))) #[.int .u32 1, .int .u32 1, .string ⟨#[116]⟩, .int .u8 1, .slice (some ⟨w.heap.size, 0, none⟩) 1 1] 99 5 1 1 _ rfl (RR.len _) rfl, fun p hp => by simp at hp; subst hp; exact (((Sl.new w #[.string ⟨#[97]⟩, .int .u8 2, .bool true] 115 3 1 1 [[.string ⟨#[97]⟩, .int .u8 2, .bool true]] rfl (by intro xs hxs; simp at hxs; subst hxs; rfl) rfl)).ext (((Ext.refl _).alloc _).alloc _))⟩
    (fun p hp => by simp at hp; subst hp; exact Nat.le_refl _) (fun p hp => by simp at hp; subst hp; exact aw22_wb) (by simp))
  unfold COfPost at HOF
  simp only [World.size_alloc, List.map_cons, List.map_nil, List.length_cons, List.length_nil, Nat.zero_add, aw22_ofE, aw22_ofPl, aw22_up] at HOF
  go_enter Tryz.func13, Tryz.ntmps13
  go_upto_region 3 with (go_at_call 31; refine HOF.out.mono ?_; rintro e w1 ⟨pv, rfl, h1, -, hb1⟩; obtain ⟨rfl, c, qs, hc, hq⟩ := h1 (by first | exact rfl | exact trivial); have HC := Hid.mk' hc; have HQ := Hid.mk' hq; have HX1 := Hid.mk' (((Blk.new' (w := (w.alloc (.cells #[.string ⟨#[97]⟩, .int .u8 2, .bool true] 115))) (b := w.heap.size + 1) #[.int .u32 1, .int .u32 1, .string ⟨#[116]⟩, .int .u8 1, .slice (some ⟨w.heap.size, 0, none⟩) 1 1] 99 (by simp)).alloc (.cells #[.int .u32 1, .int .u32 1, .string ⟨#[116]⟩, .int .u8 1, .slice (some ⟨w.heap.size, 0, none⟩) 1 1] 99)).ext hb1); have HB1 := Hid.mk' (show Ext w w1 from ((((Ext.refl w).alloc _).alloc _).alloc _).trans hb1); clear h1 hc hq hb1)
  have HNW := Hid.mk' (fun W (h : Ext w1 W) => tnew_any _ _ c qs W (HC.out.ext h) (fun p hp => by
    have h1 : p.r ∈ qs.map RR.r := List.mem_map_of_mem hp
    rw [HQ.out] at h1
    have h2 : p.r = aw22 := by simpa using h1
    rw [h2]; exact ⟨⟨by decide, by decide⟩, ⟨by decide, by decide⟩⟩))
  clear HOF
  go_upto_region 6 with (go_at_call 9; refine (HNW.out _ (Ext.refl _)).mono ?_; rintro e w2 ⟨G, qs2, rfl, hG, hbs, hq2, hb2⟩; have HBS := Hid.mk' hbs; have HQ2 := Hid.mk' (hq2.trans HQ.out); have HX2 := Hid.mk' (HX1.out.ext hb2); have HB2 := Hid.mk' (HB1.out.trans hb2); have HGN := Hid.mk' hG; clear hbs hq2 hb2 hG)
  have HOW := Hid.mk' (ownK_at [⟨2, V.zero⟩] (some ⟨w2.heap.size, 0, none⟩) 1 (w2.alloc (.cells #[.int .u8 2, .int .u8 0, .int .i64 0, .int .u64 0, .int .u64 0, .string ⟨#[]⟩] 119)) (Sl.new w2 #[.int .u8 2, .int .u8 0, .int .i64 0, .int .u64 0, .int .u64 0, .string ⟨#[]⟩] 119 6 1 1 _ rfl (by intro xs hxs; simp at hxs; subst hxs; rfl) rfl) (by decide) (by decide))
  simp only [List.length_cons, List.length_nil, Nat.zero_add] at HOW
  have HB1z := Hid.mk' HB1.out.size
  clear HNW HC HX1 HB1
  go_upto_region 7 with (go_at_call 24; refine HOW.out.mono ?_; rintro e w3 ⟨g, c1, rfl, hc1, hg, hr, hb3⟩; have HR := Hid.mk' hr; have HGL := Hid.mk' hg; have HE3 := Hid.mk' (show Ext w2 w3 from ((Ext.refl w2).alloc _).trans hb3); have HC1 := Hid.mk' hc1; clear hb3 hg hc1)
  have hgl := HR.out.lt
  have hgf := HR.out.frozen
  obtain ⟨q0, q1, q2, q3, q4⟩ := HR.out.cells (i := 0) (by decide)
  simp [V.zero] at q0 q1 q2 q3 q4
  have hgz : w2.heap.size ≤ g := by have := HGL.out; simp at this; omega
  clear HOW hr
  go_upto_region 8 with (fail)
  have HR4 := Hid.mk' (RowAt.setV HR.out (i := 0) (by decide) ⟨2, 1, 0, 0, ⟨#[]⟩⟩)
  have HE4 := Hid.mk' ((((HE3.out.setCell (p := ⟨g, 1, none⟩) hgz (.int .u8 2)).setCell (p := ⟨g, 2, none⟩) hgz (.int .i64 1)).setCell (p := ⟨g, 3, none⟩) hgz (.complex .f64 0 0)).setCell (p := ⟨g, 4, none⟩) hgz (.string ⟨#[]⟩))
  obtain ⟨w4, hw4⟩ : ∃ w4, w4 = (((w3.setCell ⟨g, 1, none⟩ (.int .u8 2)).setCell ⟨g, 2, none⟩ (.int .i64 1)).setCell ⟨g, 3, none⟩ (.complex .f64 0 0)).setCell ⟨g, 4, none⟩ (.string ⟨#[]⟩) := ⟨_, rfl⟩
  change Hid (RowAt ((((w3.setCell ⟨g, 1, none⟩ (.int .u8 2)).setCell ⟨g, 2, none⟩ (.int .i64 1)).setCell ⟨g, 3, none⟩ (.complex .f64 0 0)).setCell ⟨g, 4, none⟩ (.string ⟨#[]⟩)) g aw22r) at HR4
  rw [← hw4] at HR4 HE4 ⊢
  clear hw4 hgl hgf q0 q1 q2 q3 q4 hgz HR HE3
  have gx := (HX2.out.ext HE4.out).cell
  have zx := (HX2.out.ext HE4.out).lt
  have HSL := Hid.mk' (HR4.out.sl c1)
  have HBS4 := Hid.mk' (HBS.out.ext HE4.out)
  clear HR4 HBS
  go_upto_region 9 with (fail)
  have HB32 : Hid (∀ p ∈ qs2, B32 p.r.oid ∧ B32 p.r.ver) := Hid.mk' (fun p hp => by
    have h1 : p.r ∈ qs2.map RR.r := List.mem_map_of_mem hp
    rw [HQ2.out] at h1
    have h2 : p.r = aw22 := by simpa using h1
    rw [h2]; exact ⟨⟨by decide, by decide⟩, ⟨by decide, by decide⟩⟩)
  have HAP2 := Hid.mk' (fun W (h : Ext w4 W) => apply_any ⟨1, 0, [(⟨aw22e, none, 0, some ⟨g, 0, none⟩, c1, none, 0⟩ : EL), (⟨aw22e, none, 0, some ⟨g, 0, none⟩, c1, none, 0⟩ : EL)], some ⟨W.heap.size, 0, none⟩, 2⟩ _ G 0 qs2 T0 (W.alloc (.cells #[.int .u8 4, .int .u32 1, .int .u32 1, .int .u8 0, .slice none 0 0, .slice (some ⟨g, 0, none⟩) 1 c1, .slice none 0 0, .int .u8 0, .int .u8 4, .int .u32 1, .int .u32 1, .int .u8 0, .slice none 0 0, .slice (some ⟨g, 0, none⟩) 1 c1, .slice none 0 0, .int .u8 0] 103)) (HBS4.out.ext (h.alloc _)) HB32.out (T0_ok 0) (aw22_es2 (HSL.out.ext h)) (by show 0 + 2 ≤ 1000; omega) (aw22_all (g := g) (c1 := c1) (by simp)).1 (aw22_all (g := g) (c1 := c1) (by simp)).2)
  unfold ApPost TL.t TL.agg at HAP2
  simp only [List.map_cons, List.map_nil, List.length_cons, List.length_nil, Nat.zero_add, Nat.reduceAdd, HQ2.out, aw22_two.1, aw22_two.2.1, aw22_two.2.2] at HAP2
  have HE := Hid.mk' (Blk.new' (w := w4) (b := w4.heap.size) #[.int .u8 4, .int .u32 1, .int .u32 1, .int .u8 0, .slice none 0 0, .slice (some ⟨g, 0, none⟩) 1 c1, .slice none 0 0, .int .u8 0] 103 rfl)
  clear gx zx
  go_upto_region 11 with (fail)
  have HE5 := Hid.mk' (show Ext w4 ((w4.alloc (.cells #[.int .u8 4, .int .u32 1, .int .u32 1, .int .u8 0, .slice none 0 0, .slice (some ⟨g, 0, none⟩) 1 c1, .slice none 0 0, .int .u8 0] 103))) by exact eX)
  obtain ⟨w5, hw5⟩ : ∃ w5, w5 = (w4.alloc (.cells #[.int .u8 4, .int .u32 1, .int .u32 1, .int .u8 0, .slice none 0 0, .slice (some ⟨g, 0, none⟩) 1 c1, .slice none 0 0, .int .u8 0] 103)) := ⟨_, rfl⟩
  rw [← hw5] at HE HE5 ⊢
  clear hw5
  obtain ⟨E0, hE0⟩ : ∃ E0, E0 = w4.heap.size := ⟨_, rfl⟩
  have HE0 := Hid.mk' (show E0 ≠ G from by have := HBS4.out.lt; omega)
  rw [← hE0] at HE ⊢
  clear hE0
  have gE := HE.out.cell
  have zE := HE.out.lt
  have HAP2 := Hid.mk' (HAP2.out _ HE5.out)
  go_upto_region 12 with (go_at_call 12; refine HAP2.out.mono ?_; rintro e w6 ⟨rfl, hbs6, hk6⟩; have HBS6 := Hid.mk' hbs6; have HK6 := Hid.mk' hk6; clear hbs6 hk6)
  have HX6 := Hid.mk' ((HE.out.alloc (.cells #[.int .u8 4, .int .u32 1, .int .u32 1, .int .u8 0, .slice none 0 0, .slice (some ⟨g, 0, none⟩) 1 c1, .slice none 0 0, .int .u8 0, .int .u8 4, .int .u32 1, .int .u32 1, .int .u8 0, .slice none 0 0, .slice (some ⟨g, 0, none⟩) 1 c1, .slice none 0 0, .int .u8 0] 103)).kp HK6.out HE0.out)
  have HSL6 := Hid.mk' ((HSL.out.ext (HE5.out.alloc (.cells #[.int .u8 4, .int .u32 1, .int .u32 1, .int .u8 0, .slice none 0 0, .slice (some ⟨g, 0, none⟩) 1 c1, .slice none 0 0, .int .u8 0, .int .u8 4, .int .u32 1, .int .u32 1, .int .u8 0, .slice none 0 0, .slice (some ⟨g, 0, none⟩) 1 c1, .slice none 0 0, .int .u8 0] 103))).bs (HBS4.out.ext (HE5.out.alloc _)) HK6.out)
  have HEW6 := Hid.mk' (Kp.ext (show Ext w (w5.alloc (.cells #[.int .u8 4, .int .u32 1, .int .u32 1, .int .u8 0, .slice none 0 0, .slice (some ⟨g, 0, none⟩) 1 c1, .slice none 0 0, .int .u8 0, .int .u8 4, .int .u32 1, .int .u32 1, .int .u8 0, .slice none 0 0, .slice (some ⟨g, 0, none⟩) 1 c1, .slice none 0 0, .int .u8 0] 103)) from ((HB2.out.trans HE4.out).trans HE5.out).alloc _) (fun x hx _ => by
    have h1 : x = G := hx
    have h2 := HB1z.out
    have := HGN.out
    omega) HK6.out)
  have HLN := Hid.mk' (blen_any _ G qs2 T0 w6 HBS6.out HB32.out (by rw [HQ2.out, aw22_len0]; omega))
  rw [HQ2.out, aw22_len0] at HLN
  clear HAP2 HSL HBS4 HK6 HE HX2 HB2 HE4 HE5 gE zE
  go_upto_region 13 with (go_at_call 11; refine HLN.out.mono ?_; rintro e w7 ⟨rfl, hb7⟩; have HB7 := Hid.mk' hb7; clear hb7)
  have HX7 := Hid.mk' (HX6.out.ext HB7.out)
  have gE := HX7.out.cell
  have zE := HX7.out.lt
  have HAP1 := Hid.mk' (apply_any ⟨1, 0, [(⟨aw22e, none, 0, some ⟨g, 0, none⟩, c1, none, 0⟩ : EL)], some ⟨w7.heap.size, 0, none⟩, 1⟩ _ G 0 qs2 T0 (w7.alloc (.cells #[.int .u8 4, .int .u32 1, .int .u32 1, .int .u8 0, .slice none 0 0, .slice (some ⟨g, 0, none⟩) 1 c1, .slice none 0 0, .int .u8 0] 103)) (HBS6.out.ext (HB7.out.alloc _)) HB32.out (T0_ok 0) (aw22_es1 (HSL6.out.ext HB7.out)) (by show 0 + 1 ≤ 1000; omega) (aw22_all (g := g) (c1 := c1) (by simp)).1 (aw22_all (g := g) (c1 := c1) (by simp)).2)
  unfold ApPost TL.t TL.agg at HAP1
  simp only [List.map_cons, List.map_nil, List.length_cons, List.length_nil, Nat.zero_add, HQ2.out, aw22_one.1, aw22_one.2.1, aw22_one.2.2] at HAP1
  clear HLN HX6 HSL6 HBS6
  go_upto_region 14 with (go_at_call 12; refine HAP1.out.mono ?_; rintro e w8 ⟨rfl, hbs8, hk8⟩; have HBS8 := Hid.mk' hbs8; have HK8 := Hid.mk' hk8; clear hbs8 hk8)
  have HEW8 := Hid.mk' (Kp.ext (show Ext w (w7.alloc (.cells #[.int .u8 4, .int .u32 1, .int .u32 1, .int .u8 0, .slice none 0 0, .slice (some ⟨g, 0, none⟩) 1 c1, .slice none 0 0, .int .u8 0] 103)) from (HEW6.out.trans HB7.out).alloc _) (fun x hx _ => by
    have h1 : x = G := hx
    have h2 := HB1z.out
    have := HGN.out
    omega) HK8.out)
  have HLN := Hid.mk' (blen_any _ G qs2 _ w8 HBS8.out HB32.out (by rw [HQ2.out, aw22_len1]; omega))
  rw [HQ2.out, aw22_len1] at HLN
  clear HAP1 HK8 HX7 HBS8 gE zE
  go_wp2_with (go_at_call 11; refine HLN.out.mono ?_; rintro e w9 ⟨rfl, hb9⟩; have HB9 := Hid.mk' hb9; clear hb9)
  go_ret
  exact ⟨rfl, HEW8.out.trans HB9.out⟩

end Go.Proofs.YtkhlgoafeacdcaaGreat

/-
Transactions of the arguments that are not great, and their copies: they are small.
-/
namespace Go.Proofs.YtkhlgoafeacdcaaGreat
open Go.RowKit

theorem Lit.ok {ps : List RR} {ts : List TL} (h : Lit ps ts) : ts.length ≤ 1000 ∧ (∀ t ∈ ts, t.es.length ≤ 1000) ∧ (∀ t ∈ ts, ∀ e ∈ t.es, e.e.small) ∧ ∀ t ∈ ts, ∀ e ∈ t.es, e.e.rs.length ≤ 1000 := by
  refine ⟨by have := h.t; omega, fun t ht => ?_, fun t ht e he => ?_, fun t ht e he => by have := (h.e t ht e he).r; omega⟩
  · obtain ⟨i, hi, rfl⟩ := List.getElem_of_mem ht
    have h1 := manyT_succ hi
    have h2 := manyT_le ts (i + 1)
    have h3 := h.es
    omega
  · have h1 := h.e t ht e he
    exact ⟨by have := h1.b; omega, by have := h1.a; omega, by have := h1.r; omega⟩

theorem OwnT.sm {W : World} {N : Nat} {v : Value} {ts qs : List TL} (ho : OwnT W N (ts.map TL.t) v qs) (h1 : ∀ t ∈ ts, t.es.length ≤ 1000) (h2 : ∀ t ∈ ts, ∀ e ∈ t.es, e.e.small) : (∀ t ∈ qs, t.es.length ≤ 1000) ∧ ∀ t ∈ qs, ∀ e ∈ t.es, e.e.small := by
  have h3 : ∀ t ∈ qs, ∃ t2 ∈ ts, t2.es.map EL.e = t.es.map EL.e := fun t ht => by
    have h4 : t.t ∈ ts.map TL.t := by rw [← ho.t]; exact List.mem_map_of_mem ht
    obtain ⟨t2, h5, h6⟩ := List.mem_map.1 h4
    exact ⟨t2, h5, congrArg Tx.es h6⟩
  refine ⟨fun t ht => ?_, fun t ht e he => ?_⟩
  · obtain ⟨t2, h5, h6⟩ := h3 t ht
    have := congrArg List.length h6
    rw [List.length_map, List.length_map] at this
    have := h1 t2 h5
    omega
  · obtain ⟨t2, h5, h6⟩ := h3 t ht
    have h7 : e.e ∈ t2.es.map EL.e := by rw [h6]; exact List.mem_map_of_mem he
    obtain ⟨e2, h8, h9⟩ := List.mem_map.1 h7
    rw [← h9]; exact h2 t2 h5 e2 h8
theorem OwnT.wk {W : World} {N : Nat} {v : Value} {ts qs : List TL} (ho : OwnT W N (ts.map TL.t) v qs) (h2 : ∀ t ∈ ts, ∀ e ∈ t.es, e.e.wk) : ∀ t ∈ qs, ∀ e ∈ t.es, e.e.wk := by
  intro t ht e he
  have h4 : t.t ∈ ts.map TL.t := by rw [← ho.t]; exact List.mem_map_of_mem ht
  obtain ⟨t2, h5, h6⟩ := List.mem_map.1 h4
  have h7 : e.e ∈ t2.es.map EL.e := by rw [show t2.es.map EL.e = t.es.map EL.e from congrArg Tx.es h6]; exact List.mem_map_of_mem he
  obtain ⟨e2, h8, h9⟩ := List.mem_map.1 h7
  rw [← h9]; exact h2 t2 h5 e2 h8

end Go.Proofs.YtkhlgoafeacdcaaGreat

/-
The catalog that relations make: what each of its relations' numbers is within; each is found.
-/
namespace Go.Proofs.YtkhlgoafeacdcaaGreat
open Go.RowKit

theorem ofUp_b32 {ps qs : List RR} {n : Nat} (h : qs.map RR.r = ofUp (ps.map RR.r) n) (hB : ∀ p ∈ ps, B32 p.r.oid ∧ B32 p.r.ver) : ∀ p ∈ qs, B32 p.r.oid ∧ B32 p.r.ver := fun p hp => by
  have h1 : p.r ∈ qs.map RR.r := List.mem_map_of_mem hp
  rw [h, ← upP_r] at h1
  obtain ⟨q, h2, h3⟩ := List.mem_map.1 h1
  rw [← h3]
  exact hB q (upP_mem h2)
theorem b32_of {ps qs : List RR} (h : qs.map RR.r = ps.map RR.r) (hB : ∀ p ∈ ps, B32 p.r.oid ∧ B32 p.r.ver) : ∀ p ∈ qs, B32 p.r.oid ∧ B32 p.r.ver := fun p hp => by
  have h1 : p.r ∈ qs.map RR.r := List.mem_map_of_mem hp
  rw [h] at h1
  obtain ⟨q, h2, h3⟩ := List.mem_map.1 h1
  rw [← h3]
  exact hB q h2
theorem ofUp_get {ps : List RR} (h : ofE (ps.map RR.r) = 0) {p : RR} (hp : p ∈ ps) : getR p.r.oid p.r.ver (ofUp (ps.map RR.r) ps.length) = some p.r := by
  have h1 : ∀ j, j < (ps.map RR.r).length → ofAt (ps.map RR.r) j = 0 := firstE_all h
  have h2 : p.r ∈ ofUp (ps.map RR.r) ps.length := by
    rw [(ofUp_mem h1 ps.length (by rw [List.length_map]; exact Nat.le_refl _)).1, show ps.length = (ps.map RR.r).length by rw [List.length_map], List.take_length]
    exact List.mem_map_of_mem hp
  obtain ⟨i, hi, he⟩ := List.getElem_of_mem h2
  rw [← he]
  exact (ofUp_ok _ _).srt.get_at hi ⟨rfl, rfl⟩

end Go.Proofs.YtkhlgoafeacdcaaGreat

/-
A table's rows, copied: the program's Rows.
-/
namespace Go.Proofs.YtkhlgoafeacdcaaGreat
open Go.RowKit Go.Maps

/-- Rows of the call's own, in a row of its own. -/
structure OwnP (W : World) (N : Nat) (ls : List (List K)) (v : Value) (qs : List PR) : Prop where
  own : W.ownsRow N 71 1 v qs.length (qs.map PR.cell).flatten
  l : qs.map PR.l = ls
  sl : ∀ q ∈ qs, Sl W q.val 5 (q.l.map K.pc)
  ne : ∀ q ∈ qs, q.l ≠ [] → ∀ b o, q.a = some ⟨b, o, none⟩ → v.ownBlock ≠ some b ∧ b < W.heap.size
theorem OwnP.nil (W : World) (N : Nat) : OwnP W N [] (.slice none 0 0) [] := ⟨World.ownsRow_nil _ _ _ _, rfl, (fun q h => by cases h), (fun q h => by cases h)⟩
theorem OwnP.len {W : World} {N : Nat} {ls : List (List K)} {v : Value} {qs : List PR} (h : OwnP W N ls v qs) : qs.length = ls.length := by rw [← h.l, List.length_map]
theorem OwnP.ext {W W' : World} {N : Nat} {ls : List (List K)} {v : Value} {qs : List PR} (h : OwnP W N ls v qs) (he : Ext W W') : OwnP W' N ls v qs :=
  ⟨owns_ext h.own he, h.l, fun q hq => (h.sl q hq).ext he, fun q hq h0 b o e => ⟨(h.ne q hq h0 b o e).1, Nat.lt_of_lt_of_le (h.ne q hq h0 b o e).2 he.size⟩⟩
theorem OwnP.push {W W' : World} {N : Nat} {ls : List (List K)} {v v' : Value} {qs : List PR} {q : PR} (h : OwnP W N ls v qs) (hs : Sl W q.val 5 (q.l.map K.pc)) (hn : q.l ≠ [] → ∀ b o, q.a = some ⟨b, o, none⟩ → v.ownBlock ≠ some b ∧ b < W.heap.size)
    (hg : W.grownBy W' v.ownBlock) (hat : v'.ownBlock = v.ownBlock ∨ v'.ownBlock = some W.heap.size) (ho : W'.ownsRow N 71 1 v' (qs.length + 1) ((qs.map PR.cell).flatten ++ q.cell)) : OwnP W' N (ls ++ [q.l]) v' (qs ++ [q]) := by
  have hne : ∀ x ∈ qs ++ [q], x.l ≠ [] → ∀ b o, x.a = some ⟨b, o, none⟩ → v.ownBlock ≠ some b ∧ b < W.heap.size := fun x hx => by
    rcases List.mem_append.1 hx with hx | hx
    · exact h.ne x hx
    · obtain rfl : x = q := by simpa using hx
      exact hn
  refine ⟨by simpa using ho, by rw [List.map_append, h.l]; rfl, fun x hx => ?_, fun x hx h0 b o e => ?_⟩
  · have h1 : Sl W x.val 5 (x.l.map K.pc) := by
      rcases List.mem_append.1 hx with hx | hx
      · exact h.sl x hx
      · obtain rfl : x = q := by simpa using hx
        exact hs
    exact Sl.grown1 h1 hg fun h0 b o e => (hne x hx (fun h2 => h0 (by rw [h2]; rfl)) b o e).1
  · obtain ⟨h1, h2⟩ := hne x hx h0 b o e
    refine ⟨?_, Nat.lt_of_lt_of_le h2 hg.size⟩
    rcases hat with h3 | h3
    · rw [h3]; exact h1
    · rw [h3]; intro h4; injection h4 with h4; omega
theorem OwnP.rs {W : World} {N : Nat} {ls : List (List K)} {v : Value} {qs : List PR} (h : OwnP W N ls v qs) : RS 5 K.pc W v qs := ⟨Sl.of_owns (base := N) (e := 71) (by rw [List.length_map]; exact h.own) (PR.len qs), h.sl, Tag.owns h.own⟩

set_option maxRecDepth 100000 in set_option maxHeartbeats 8000000 in
theorem brows_any (N g : Nat) (ps : List RR) (T : Tb) (ao av : Int) (w : World) (hb : Bs w N g ps T) (ho : B32 ao) (hv : B32 av) (hT : TbOk T 1000) :
    Calls Tryz.prog 21 #[.pointer (some ⟨g, 0, none⟩), .agg #[.int .u32 ao, .int .u32 av]] w fun e w' => ∃ a' c' qs, e = .returned (.slice a' qs.length c') ∧ OwnP w' w.heap.size (T ao av) (.slice a' qs.length c') qs ∧ Ext w w' := by
  obtain ⟨i0, hi, hz0, hz1, hz2⟩ := info_parts Tryz.infoRowP
  obtain ⟨cat, cv, m, hat, hca, hmp⟩ := hb
  obtain ⟨xv, hrv, hlk0⟩ := hmp.look ho hv
  obtain ⟨a5, c5, qs, rfl, hrs5, hqs5⟩ := hrv
  have hlen : qs.length ≤ 1000 := by
    have h1 := hT.n ao av
    rwa [← hqs5, List.length_map] at h1
  have HM := Hid.mk' (fun q (hq : q ∈ qs) => hT.r ao av q.l (by rw [← hqs5]; exact List.mem_map_of_mem hq))
  have HRS := Hid.mk' hrs5
  have HLS := Hid.mk' hqs5
  have hlk : ∀ W', Ext (w.alloc (.cells #[.int .u32 ao, .int .u32 av] 68)) W' → (Instr.lookup 91 (.map (some m)) (.agg #[.int .u32 ao, .int .u32 av]) false).run Tryz.prog W' = .ok (.slice a5 qs.length c5) W' := fun W' h => hlk0 W' (((Ext.refl w).alloc _).trans h)
  have l0 := hat.cell0
  have l1 := hat.cell1
  have lz : g < w.heap.size := Blk.lt hat
  clear hat hca hmp hrs5 hqs5 hT hlk0
  go_enter Tryz.func21, Tryz.ntmps21
  go_wp2
  go_region_held3 (fun w' => Ext (w.alloc (.cells #[.int .u32 ao, .int .u32 av] 68)) w' ∧ (∀ b o, b < (w.alloc (.cells #[.int .u32 ao, .int .u32 av] 68)).heap.size → w'.cell? ⟨b, o, none⟩ = (w.alloc (.cells #[.int .u32 ao, .int .u32 av] 68)).cell? ⟨b, o, none⟩) ∧ (∀ b o, b < (w.alloc (.cells #[.int .u32 ao, .int .u32 av] 68)).heap.size → w'.frozen? ⟨b, o, none⟩ = (w.alloc (.cells #[.int .u32 ao, .int .u32 av] 68)).frozen? ⟨b, o, none⟩)) ((exact held_of (by exact eX))) (fail)
  go_wp2
  have HE0 := Hid.mk' (show Ext w ((w.alloc (.cells #[.int .u32 ao, .int .u32 av] 68)).drew) by exact eX)
  obtain ⟨w0, hw0⟩ : ∃ w0, w0 = (w.alloc (.cells #[.int .u32 ao, .int .u32 av] 68)).drew := ⟨_, rfl⟩
  rw [← hw0] at HE0
  try rw [← hw0]
  clear hw0 hlk l0 l1 lz ho hv
  go_loopw [5, 15] (fun v i wr => ∃ (k : Nat) (va : Option Addr) (vc : Nat) (ks : List PR), k ≤ qs.length ∧ i = .int .i64 k ∧ v = .slice va ks.length vc ∧ Hid (OwnP wr w.heap.size ((qs.take k).map PR.l) (.slice va ks.length vc) ks) ∧ Hid (Ext w wr)) (fun _ i _ => qs.length - (intOf i).toNat)
  case atStart => exact ⟨0, none, 0, [], Nat.zero_le _, rfl, rfl, Hid.mk' (OwnP.nil _ _), HE0⟩
  case round =>
    obtain ⟨k, va, vc, ks, hk, rfl, rfl, hown, hE⟩ := hrel
    by_cases hlt : k < qs.length
    · obtain ⟨b, o, rfl, hb, hx⟩ := HRS.out.row.at_ (i := k) (by simpa using hlt)
      have f0 := PR.at_ hlt hx hb hE.out
      have hbw : b < wr.heap.size := Nat.lt_of_lt_of_le hb hE.out.size
      have HCK := Hid.mk' (fun W (h : Ext w W) => clonek_any qs[k].l qs[k].a qs[k].c W (PR.row HRS.out hlt h) (HM.out _ (List.getElem_mem hlt)))
      have HTS := Hid.mk' (show (qs.take (k + 1)).map PR.l = (qs.take k).map PR.l ++ [qs[k].l] by rw [List.take_succ_eq_append_getElem hlt, List.map_append]; rfl)
      have hkl : ks.length = k := by have h1 := hown.out.len; rw [List.length_map, List.length_take] at h1; omega
      have hks : ks.length ≤ 1000 := by omega
      obtain ⟨q, hq⟩ : ∃ q, q = qs[k] := ⟨_, rfl⟩
      rw [← hq] at f0 HCK HTS
      have HLT := Hid.mk' hlt
      obtain ⟨ql, qa, qc⟩ := q
      simp only at f0 HCK HTS
      clear hq hx hb hkl
      go_wp2_with (first
        | (go_at_call 49; refine (HCK.out _ hE.out).mono ?_; rintro e w3 ⟨a', c', rfl, ho3, hb3⟩; have HO3 := Hid.mk' ho3; have HE3 := Hid.mk' (show Ext wr w3 by exact eX); clear ho3 hb3)
        | (at_builtin; refine wpList_append_own_at _ rfl _ _ 66 rfl w.heap.size 71 i0 _ 1 24 Tryz.underlying66 hi hz0 hz1 hz2 rfl (by decide) _ _ _ rfl (owns_ext hown.out.own (HE3.out.alloc _)) ⟨_, 0, none⟩ 1 1 (PR.cell ⟨ql, a', c'⟩) rfl rfl ?c1 ?c2 ?c3 ?c4 ?c5 ?_))
      case c1 => exact cells_new _ #[.slice a' ql.length c'] _
      case c2 => exact PR.one _
      case c3 => unfold maxLen; omega
      case c4 => omega
      case c5 => have := hE.out.size; have := HE3.out.size; simp at *; omega
      intro v' w4 hown' hgrow _ hat
      have hE3' : Ext w (w3.alloc (.cells #[.slice a' ql.length c'] 71)) := (hE.out.trans HE3.out).alloc _
      have HE4 := Hid.mk' (Ext.grown hE3' (owns_ext hown.out.own (HE3.out.alloc _)) hgrow)
      have HSL3 := Hid.mk' (show Sl w3 (.slice a' ql.length c') 5 (ql.map K.pc) from Sl.of_owns (base := wr.heap.size) (e := 124) (by rw [List.length_map]; exact HO3.out) (by intro xs hxs; simp at hxs; obtain ⟨_, _, rfl⟩ := hxs; rfl))
      have HOK := Hid.mk' ((hown.out.ext (HE3.out.alloc (.cells #[.slice a' ql.length c'] 71))).push (q := ⟨ql, a', c'⟩) (HSL3.out.ext ((Ext.refl w3).alloc _)) (fun h0 b o e => by
        have e2 : a' = some ⟨b, o, none⟩ := e
        obtain ⟨g6, e6, hg6, -⟩ := owns_pos HO3.out (List.length_pos_iff.2 h0)
        rw [e6] at e2; cases e2
        refine ⟨fun h4 => ?_, ?_⟩
        · have h5 := owns_lt3 hown.out.own h4
          omega
        · have h5 := Sl.lt (by rw [← e6]; exact HSL3.out) (fun h => h0 (by simpa using h))
          simp; omega) hgrow (by rw [World.size_alloc]; exact hat) hown')
      obtain ⟨va', vc', rfl⟩ := owns_shape hown'
      clear hown' hgrow hat hown
      have hlt2 : k < qs.length := HLT.out
      go_wp2
      go_roundw
      case rel => exact ⟨k + 1, va', vc', ks ++ [⟨ql, a', c'⟩], by omega, by go_num, by rw [List.length_append]; rfl, Hid.mk' (by rw [HTS.out, List.length_append]; exact HOK.out), HE4⟩
      case measure => simp [intOf]; omega
    · obtain rfl : k = qs.length := by omega
      rw [List.take_length] at hown
      go_wp2
      go_ret
      exact ⟨va, vc, ks, rfl, by rw [← HLS.out]; exact hown.out, hE.out⟩

end Go.Proofs.YtkhlgoafeacdcaaGreat

/-
The row of a key: the program's Find.
-/
namespace Go.Proofs.YtkhlgoafeacdcaaGreat
open Go.RowKit Go.Maps

/-- The row of a key. -/
noncomputable def findP (rs : List Rl) (T : Tb) (o v : Int) (key : List K) : Option (List K) := match getR o v rs with
  | none => none
  | some r => if key.length ≠ r.cols.length ∨ rkey r.cols = false then none else if byKeyI r.cols (T o v) key (-1) < 0 then none else some ((T o v).getD (byKeyI r.cols (T o v) key (-1)).toNat [])
def FindPost (r : Option (List K)) (w : World) (e : Ending) (w' : World) : Prop := ∃ a' c', e = .returned (.tuple #[.slice a' (r.getD []).length c', .bool r.isSome]) ∧ Sl w' (.slice a' (r.getD []).length c') 5 ((r.getD []).map K.pc) ∧ Ext w w'
theorem FindPost.no {r : Option (List K)} {w w' : World} (h : r = none) (he : Ext w w') : FindPost r w (.returned (.tuple #[.slice none 0 0, .bool false])) w' := by
  subst h
  exact ⟨none, 0, rfl, ⟨none, 0, rfl, .inl rfl⟩, he⟩

set_option maxRecDepth 100000 in set_option maxHeartbeats 8000000 in
theorem bfind_any (N g : Nat) (ps : List RR) (T : Tb) (ao av : Int) (key : List K) (ka : Option Addr) (kc : Nat) (w : World) (hb : Bs w N g ps T) (hB : ∀ p ∈ ps, B32 p.r.oid ∧ B32 p.r.ver) (hT : TbOk T 1000) (hk : Sl w (.slice ka key.length kc) 5 (key.map K.pc)) (hkn : key.length ≤ 1000) :
    Calls Tryz.prog 23 #[.pointer (some ⟨g, 0, none⟩), .agg #[.int .u32 ao, .int .u32 av], .slice ka key.length kc] w (FindPost (findP (ps.map RR.r) T ao av key) w) := by
  have HBS := Hid.mk' hb
  have HB := Hid.mk' hB
  have HK := Hid.mk' hk
  have HT := Hid.mk' hT
  obtain ⟨cat, cv, m, hat, hca, hmp⟩ := hb
  have HGC := Hid.mk' (fun W (h : Ext w W) => cget_any N cat cv ps ao av W (hca.ext h))
  have HC16 := Hid.mk' (fun r (hg : getR ao av (ps.map RR.r) = some r) => show r.cols.length ≤ 1000 by
    obtain ⟨p, hp, rfl⟩ := List.mem_map.1 (getR_some hg).1
    have := hca.n16 hp; omega)
  have HMP := Hid.mk' hmp
  have HAT := Hid.mk' hat
  have l0 := hat.cell0
  have l1 := hat.cell1
  have lz : g < w.heap.size := Blk.lt hat
  have HGP : Hid ((getP ao av ps).map RR.r = getR ao av (ps.map RR.r)) := Hid.mk' (getP_map ao av ps)
  clear hB hk hT hat hca hmp
  obtain ⟨res, hres⟩ : ∃ r, r = findP (ps.map RR.r) T ao av key := ⟨_, rfl⟩
  rw [← hres]
  have HRES := Hid.mk' hres
  clear hres
  obtain ⟨H, hH⟩ : ∃ H, H = hasR ao av (ps.map RR.r) := ⟨_, rfl⟩
  obtain ⟨R, hR⟩ : ∃ R, R = ((getP ao av ps).getD RR.zero).r := ⟨_, rfl⟩
  rw [← hH, ← hR] at HGC
  have HH := Hid.mk' hH
  have HRR := Hid.mk' hR
  clear hH hR
  go_enter Tryz.func23, Tryz.ntmps23
  go_upto_region 1 with (fail)
  obtain ⟨w1, hw1⟩ : ∃ w1, w1 = w.alloc (.cells #[.int .u32 ao, .int .u32 av] 68) := ⟨_, rfl⟩
  have HE1 := Hid.mk' (show Ext w w1 by rw [hw1]; exact (Ext.refl w).alloc _)
  have HX1 := Hid.mk' (show Blk w1 w.heap.size #[.int .u32 ao, .int .u32 av] 68 by rw [hw1]; exact Blk.new _ _ _)
  rw [← hw1]
  have g0 := HX1.out.cell
  have z0 := HX1.out.lt
  have k0 : w1.cell? ⟨g, 0, none⟩ = _ := (HE1.out.cells.1 g 0 lz).trans l0
  have kz : g < w1.heap.size := Nat.lt_of_lt_of_le lz HE1.out.size
  have k1 : w1.cell? ⟨g, 1, none⟩ = _ := (HE1.out.cells.1 g 1 lz).trans l1
  clear hw1
  go_cut [8, 9] (fun p i wx => ∃ X, ∃ q : RR, p = .pointer (some ⟨X, 0, none⟩) ∧ i = .bool H ∧ Hid (q.r = R) ∧ Hid (Blk wx X #[.int .u32 q.r.oid, .int .u32 q.r.ver, .string q.r.nm, .int .u8 q.r.id, .slice q.a q.r.cols.length q.c] 99) ∧ Hid (q.in wx) ∧ Hid (Ext w1 wx))
  case first =>
    have hA0 : Hid ((fun w' => Ext (w1) w' ∧ (∀ b o, b < (w1).heap.size → w'.cell? ⟨b, o, none⟩ = (w1).cell? ⟨b, o, none⟩) ∧ (∀ b o, b < (w1).heap.size → w'.frozen? ⟨b, o, none⟩ = (w1).frozen? ⟨b, o, none⟩)) w1.drew) := held_of (by exact eX)
    refine wp_region_head 11 (fun w' => Ext (w1) w' ∧ (∀ b o, b < (w1).heap.size → w'.cell? ⟨b, o, none⟩ = (w1).cell? ⟨b, o, none⟩) ∧ (∀ b o, b < (w1).heap.size → w'.frozen? ⟨b, o, none⟩ = (w1).frozen? ⟨b, o, none⟩)) (by kernel_rfl) (by decide) ?_
    refine HG.on 0 12 hA0.out ?_
    try simp only [Act.put, List.setIfInBounds_toArray, List.set_cons_zero, List.set_cons_succ]
    refine HG.on 1 13 hA0.out ?_
    try simp only [Act.put, List.setIfInBounds_toArray, List.set_cons_zero, List.set_cons_succ]
    refine HG.on 2 14 hA0.out ?_
    try simp only [Act.put, List.setIfInBounds_toArray, List.set_cons_zero, List.set_cons_succ]
    refine HG.on 3 15 hA0.out ?_
    try simp only [Act.put, List.setIfInBounds_toArray, List.set_cons_zero, List.set_cons_succ]
    refine HG.on 4 16 hA0.out ?_
    try simp only [Act.put, List.setIfInBounds_toArray, List.set_cons_zero, List.set_cons_succ]
    refine wpHd_two (i := 5) (j := 9) rfl rfl rfl rfl (by kernel_rfl) (fun KK hK => ?_) (fun KK hK => ?_)
    · go_simp
      refine (HGC.out _ (HE1.out.trans (by exact eX))).mono ?_
      rintro e w6 ⟨q, rfl, hqr, hqo, hb6⟩
      have HQR := Hid.mk' hqr
      have HQO := Hid.mk' hqo
      have HB6 := Hid.mk' (show Ext w1 w6 by exact eX)
      refine hK.out _ _ (held_of HB6.out) (fun hA => ?_)
      clear hK KK hA hqo hqr hb6 hA0
      have hA0 : Hid ((fun w' => Ext (w1) w' ∧ (∀ b o, b < (w1).heap.size → w'.cell? ⟨b, o, none⟩ = (w1).cell? ⟨b, o, none⟩) ∧ (∀ b o, b < (w1).heap.size → w'.frozen? ⟨b, o, none⟩ = (w1).frozen? ⟨b, o, none⟩)) w6) := held_of HB6.out
      refine HG.on 6 11 hA0.out ?_
      try simp only [Act.put, List.setIfInBounds_toArray, List.set_cons_zero, List.set_cons_succ]
      refine HG.on 7 18 hA0.out ?_
      try simp only [Act.put, List.setIfInBounds_toArray, List.set_cons_zero, List.set_cons_succ]
      refine HG.on 8 19 hA0.out ?_
      try simp only [Act.put, List.setIfInBounds_toArray, List.set_cons_zero, List.set_cons_succ]
      refine wpHd_one (i := 9) rfl rfl (by kernel_rfl) (fun KK hK => ?_)
      go_simp
      refine hK.out _ _ (held_of (by have := HB6.out; exact eX)) (fun hA => ?_)
      clear hK KK hA
      refine wpHd_one (i := 10) rfl rfl (by kernel_rfl) (fun KK hK => ?_)
      unfold RR.agg
      go_simp
      refine hK.out _ _ (held_of (by have := HB6.out; exact eX)) (fun hA => ?_)
      clear hK KK hA hA0
      refine wpHd_tail (by kernel_rfl) ?_
      simp only [List.drop_succ_cons, List.drop_zero]
      go_wp2
      go_meet
      case rel => exact ⟨_, q, rfl, rfl, HQR, Hid.mk' (Blk.new _ _ _), Hid.mk' ((RR.owned.in HQO.out).ext (by exact eX)), Hid.mk' (by have := HB6.out; exact eX)⟩
    · go_simp
      refine hK.out _ _ (held_of (by exact eX)) (fun hA => ?_)
      clear hK KK hA
      refine wpHd_one (i := 5) rfl rfl (by kernel_rfl) (fun KK hK => ?_)
      go_simp
      refine (HGC.out _ (HE1.out.trans (by exact eX))).mono ?_
      rintro e w6 ⟨q, rfl, hqr, hqo, hb6⟩
      have HQR := Hid.mk' hqr
      have HQO := Hid.mk' (RR.owned.mono hqo (show w1.heap.size + 1 ≤ _ by simp))
      have HB6 := Hid.mk' (show Ext w1 w6 by exact eX)
      have HX6 := Hid.mk' (show Blk w6 w1.heap.size #[.int .u32 0, .int .u32 0, .string ⟨#[]⟩, .int .u8 0, .slice none 0 0] 99 from (Blk.drew (Blk.new w1 _ _)).ext hb6)
      have gX6 := HX6.out.cell
      have gX6f := HX6.out.frozen
      have zX6 := HX6.out.lt
      refine hK.out _ _ (held_of HB6.out) (fun hA => ?_)
      clear hK KK hA hqo hqr hb6 hA0
      have hA0 : Hid ((fun w' => Ext (w1) w' ∧ (∀ b o, b < (w1).heap.size → w'.cell? ⟨b, o, none⟩ = (w1).cell? ⟨b, o, none⟩) ∧ (∀ b o, b < (w1).heap.size → w'.frozen? ⟨b, o, none⟩ = (w1).frozen? ⟨b, o, none⟩)) w6) := held_of HB6.out
      refine HG.on 6 11 hA0.out ?_
      try simp only [Act.put, List.setIfInBounds_toArray, List.set_cons_zero, List.set_cons_succ]
      refine HG.on 7 18 hA0.out ?_
      try simp only [Act.put, List.setIfInBounds_toArray, List.set_cons_zero, List.set_cons_succ]
      refine HG.on 8 19 hA0.out ?_
      try simp only [Act.put, List.setIfInBounds_toArray, List.set_cons_zero, List.set_cons_succ]
      refine wpHd_one (i := 10) rfl rfl (by kernel_rfl) (fun KK hK => ?_)
      unfold RR.agg
      go_simp
      refine hK.out _ _ (held_of (by have := HB6.out; exact eX)) (fun hA => ?_)
      clear hK KK hA hA0
      refine wpHd_tail (by kernel_rfl) ?_
      simp only [List.drop_succ_cons, List.drop_zero]
      go_wp2
      go_meet
      case rel =>
        refine ⟨_, q, rfl, rfl, HQR, Hid.mk' (Blk.fiveT HX6.out), Hid.mk' ?_, Hid.mk' (by have := HB6.out; exact eX)⟩
        refine RR.owned.in (N := w1.heap.size + 1) (q := q) ?_
        unfold RR.owned
        repeat (with_reducible refine owns_set ?_ (by dsimp only; omega) _)
        exact HQO.out
  case rest =>
    obtain ⟨X, ⟨qr, a2, c2⟩, rfl, rfl, hqr, hbx, hqi, HEX⟩ := hcut
    have HQR := Hid.mk' (show qr = R from hqr.out)
    have HBX := Hid.mk' hbx.out
    have HQI := Hid.mk' hqi.out
    clear hqr hbx hqi k0 k1 kz g0 z0 l0 l1
    simp only at HBX HQI
    have HEC := Hid.mk' (HE1.out.trans HEX.out)
    cases hg : getR ao av (ps.map RR.r) with
    | none =>
      have HR := Hid.mk' (show res = none from by rw [HRES.out]; unfold findP; rw [hg])
      obtain rfl : H = false := HH.out.trans (getR_none.1 hg)
      clear hg
      go_wp2
      go_ret2
      exact FindPost.no HR.out HEC.out
    | some r =>
      have hin : hasR ao av (ps.map RR.r) = true := by
        cases hh : hasR ao av (ps.map RR.r) with
        | true => rfl
        | false => rw [getR_none.2 hh] at hg; cases hg
      obtain rfl : H = true := HH.out.trans hin
      obtain ⟨ho, hv⟩ := hasR_b32 HB.out hin
      have hrr : R = r := by
        have h1 := HGP.out.trans hg
        obtain ⟨p, hp, hpx⟩ := Option.map_eq_some_iff.1 h1
        rw [HRR.out, hp, Option.getD_some, hpx]
      have HC := Hid.mk' (HC16.out r hg)
      have HFP : Hid (res = if key.length ≠ r.cols.length ∨ rkey r.cols = false then none else if byKeyI r.cols (T ao av) key (-1) < 0 then none else some ((T ao av).getD (byKeyI r.cols (T ao av) key (-1)).toNat [])) := Hid.mk' (by rw [HRES.out]; unfold findP; rw [hg])
      have hq2 : qr = r := HQR.out.trans hrr
      subst hq2
      clear hg hin hrr HQR HRR HGP HGC HC16 HH
      obtain ⟨oid, ver, nm, id, cols⟩ := qr
      simp only at HBX HQI HC HFP
      have HQI2 := Hid.mk' (show Sl wc (.slice a2 cols.length c2) 3 (cols.map Col.cells) from HQI.out)
      have gX := HBX.out.cell
      have zX := HBX.out.lt
      by_cases hlen : key.length = cols.length
      case neg =>
        have HR := Hid.mk' (HFP.out.trans (if_pos (.inl hlen)))
        have hl1 : (((key.length : Nat) : Int) != ((cols.length : Nat) : Int)) = true := by simp; omega
        clear hlen HFP
        go_wp2
        go_ret2
        exact FindPost.no HR.out (HEC.out.trans (by exact eX))
      have hl1 : (((key.length : Nat) : Int) != ((cols.length : Nat) : Int)) = false := by simp; omega
      have HKD := Hid.mk' (fun W (h : Ext wc W) => tkeyed_any oid ver nm id cols a2 c2 W (HQI2.out.ext h) HC.out)
      have HRK : Hid (cols.any Col.key = rkey cols) := Hid.mk' rfl
      rw [HRK.out] at HKD
      cases hr : rkey cols with
      | false =>
        rw [hr] at HKD
        have HR := Hid.mk' (HFP.out.trans (if_pos (.inr hr)))
        clear hlen HFP hr HRK
        go_wp2_with (go_at_call 50; refine (HKD.out _ (by exact eX)).mono ?_; rintro e w7 ⟨rfl, hb7⟩)
        go_ret2
        exact FindPost.no HR.out (HEC.out.trans (by exact eX))
      | true =>
        rw [hr] at HKD
        have HR := Hid.mk' (HFP.out.trans (if_neg (fun q => q.elim (fun h => h hlen) (fun h => by rw [hr] at h; cases h))))
        clear hlen HFP hr HRK
        go_upto_region 4 with (go_at_call 50; refine (HKD.out _ (by exact eX)).mono ?_; rintro e w7 ⟨rfl, hb7⟩; have HB7 := Hid.mk' (show Ext wc w7 by exact eX); clear hb7)
        have HE7 := Hid.mk' (HEC.out.trans HB7.out)
        obtain ⟨xv, hrv, hlk⟩ := (HMP.out.ext HE7.out).look ho hv
        obtain ⟨a5, c5, qs, rfl, hrs5, hqs5⟩ := hrv
        have HBK := Hid.mk' (fun W (h : Ext w7 W) => byKey_any oid ver nm id cols a2 c2 key ka kc a5 c5 qs W (HQI2.out.ext (HB7.out.trans h)) HC.out (HK.out.ext (HE7.out.trans h)) hkn (hrs5.ext h) (by
            have h1 := HT.out.n ao av
            rwa [← hqs5, List.length_map] at h1) (fun q hq => HT.out.r ao av _ (by rw [← hqs5]; exact List.mem_map_of_mem hq)))
        have HIL := Hid.mk' (idxI_lt (fun i => decide ((i : Int) ≠ -1) && keyQ cols ((T ao av).getD i []) key) (T ao av).length)
        have HIL2 : Hid (byKeyI cols (T ao av) key (-1) < (T ao av).length) := Hid.mk' HIL.out.2
        rw [hqs5] at HBK
        have HRS5 := Hid.mk' hrs5
        have HQL := Hid.mk' hqs5
        have hm5 := fun q (hq : q ∈ qs) => HT.out.r ao av q.l (by rw [← hqs5]; exact List.mem_map_of_mem hq)
        have HM5 := Hid.mk' hm5
        generalize byKeyI cols (T ao av) key (-1) = I at HBK HR HIL2
        clear gX zX hrs5 hqs5 HIL hm5
        have gX := (HBX.out.ext HB7.out).cell
        have zX := (HBX.out.ext HB7.out).lt
        have g0 := (HX1.out.ext (HEX.out.trans HB7.out)).cell
        have z0 := (HX1.out.ext (HEX.out.trans HB7.out)).lt
        have k0 := (HAT.out.ext HE7.out).cell0
        have k1 := (HAT.out.ext HE7.out).cell1
        have kz : g < w7.heap.size := Nat.lt_of_lt_of_le lz HE7.out.size
        by_cases hI : I < 0
        · have HR2 := Hid.mk' (HR.out.trans (if_pos hI))
          clear HR
          go_region_held3 (fun w' => Ext (w7) w' ∧ (∀ b o, b < (w7).heap.size → w'.cell? ⟨b, o, none⟩ = (w7).cell? ⟨b, o, none⟩) ∧ (∀ b o, b < (w7).heap.size → w'.frozen? ⟨b, o, none⟩ = (w7).frozen? ⟨b, o, none⟩)) ((exact held_of (by exact eX))) (first | (go_at_call 51; refine (HBK.out _ (by exact eX)).mono ?_; rintro e w8 ⟨rfl, hb8⟩; have hE_w8 : Ext (w7) w8 := (by exact eX); obtain ⟨hc_w8, hf_w8⟩ := hE_w8.cells; have hz_w8 := hE_w8.size))
          go_wp2
          go_ret2
          exact FindPost.no HR2.out (HE7.out.trans (by exact eX))
        · have HR2 := Hid.mk' (HR.out.trans (if_neg hI))
          obtain ⟨k, rfl⟩ := Int.eq_ofNat_of_zero_le (show 0 ≤ I by omega)
          have hkq : k < qs.length := by have h1 := HIL2.out; rw [← HQL.out, List.length_map] at h1; omega
          rw [Int.toNat_natCast, ← HQL.out] at HR2
          have HR3 := Hid.mk' (show res = some qs[k].l from HR2.out.trans (by simp [hkq]))
          obtain ⟨b, o, rfl, hb, hx⟩ := HRS5.out.row.at_ (i := k) (by simpa using hkq)
          have f0 := PR.at_ hkq hx hb (Ext.refl w7)
          have HCK := Hid.mk' (fun W (h : Ext w7 W) => clonek_any qs[k].l qs[k].a qs[k].c W (PR.row HRS5.out hkq h) (HM5.out _ (List.getElem_mem hkq)))
          obtain ⟨q, hq⟩ : ∃ q, q = qs[k] := ⟨_, rfl⟩
          rw [← hq] at f0 HCK HR3
          obtain ⟨ql, qa, qc⟩ := q
          simp only at f0 HCK HR3
          clear HR HR2 hI hx hq
          go_region_held3 (fun w' => Ext (w7) w' ∧ (∀ b o, b < (w7).heap.size → w'.cell? ⟨b, o, none⟩ = (w7).cell? ⟨b, o, none⟩) ∧ (∀ b o, b < (w7).heap.size → w'.frozen? ⟨b, o, none⟩ = (w7).frozen? ⟨b, o, none⟩)) ((exact held_of (by exact eX))) (first | (go_at_call 51; refine (HBK.out _ (by exact eX)).mono ?_; rintro e w8 ⟨rfl, hb8⟩; have hE_w8 : Ext (w7) w8 := (by exact eX); obtain ⟨hc_w8, hf_w8⟩ := hE_w8.cells; have hz_w8 := hE_w8.size))
          go_wp2
          have hlk2 : ∀ W', Ext w8 W' → (Instr.lookup 91 (.map (some m)) (.agg #[.int .u32 ao, .int .u32 av]) false).run Tryz.prog W' = .ok (.slice (some ⟨b, o, none⟩) qs.length c5) W' := fun W' h => hlk W' (hE_w8.trans h)
          have f8 := (hc_w8 b (o + k) hb).trans f0
          have b8 : b < w8.heap.size := Nat.lt_of_lt_of_le hb hz_w8
          have j0 := (HAT.out.ext (HE7.out.trans hE_w8)).cell0
          have j1 := (HAT.out.ext (HE7.out.trans hE_w8)).cell1
          have jz : g < w8.heap.size := Nat.lt_of_lt_of_le lz (HE7.out.trans hE_w8).size
          have i0 := (HX1.out.ext (HEX.out.trans (HB7.out.trans hE_w8))).cell
          have iz := (HX1.out.ext (HEX.out.trans (HB7.out.trans hE_w8))).lt
          have HE8 := Hid.mk' (HE7.out.trans hE_w8)
          have HCK8 := Hid.mk' (fun W h => HCK.out W (hE_w8.trans h))
          clear hlk k0 k1 kz gX zX g0 z0 f0 hb HCK hE_w8 hc_w8 hf_w8 hz_w8 hb8
          go_region_held3 (fun w' => Ext (w8) w' ∧ (∀ b o, b < (w8).heap.size → w'.cell? ⟨b, o, none⟩ = (w8).cell? ⟨b, o, none⟩) ∧ (∀ b o, b < (w8).heap.size → w'.frozen? ⟨b, o, none⟩ = (w8).frozen? ⟨b, o, none⟩)) ((exact held_of (by exact eX))) (first | (go_at_call 49; refine (HCK8.out _ (by exact eX)).mono ?_; rintro e w9 ⟨a', c', rfl, ho9, hb9⟩; have HO9 := Hid.mk' ho9; clear ho9; have hE_w9 : Ext (w8) w9 := (by exact eX); obtain ⟨hc_w9, hf_w9⟩ := hE_w9.cells; have hz_w9 := hE_w9.size))
          go_wp2
          have HE9 := Hid.mk' (HE8.out.trans hE_w9)
          go_ret2
          rw [HR3.out]
          exact ⟨a', c', rfl, Sl.of_owns (e := 124) (by rw [List.length_map]; exact HO9.out) (by intro xs hxs; simp at hxs; obtain ⟨_, _, rfl⟩ := hxs; rfl), HE9.out⟩

end Go.Proofs.YtkhlgoafeacdcaaGreat
