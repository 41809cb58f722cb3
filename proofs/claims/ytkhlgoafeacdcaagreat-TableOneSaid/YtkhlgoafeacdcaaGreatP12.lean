/-
A base without rows: the program's New.
-/
import Derived.Test.YtkhlgoafeacdcaaGreatP11
namespace Go.Proofs.YtkhlgoafeacdcaaGreat
open Go.RowKit Go.Maps Go.Shelf
attribute [local go_sem] Oper.semAt_some

theorem stepIn_mapUpdate {F : Fence} {n : Nat} {P : Program} {ops : Array Oper} {o : Oper} {a : Act} {w : World} {K : Act → World → Prop} {Q : Exit → Act → World → Prop} {E : Prop} (hg : o.guard = none) (m x v : Operand) (t : TypeId) (hop : o.op = Op.mapUpdate t m x v)
    (mv key val : Value) (hm : a.eval m = mv) (hx : a.eval x = key) (hv : a.eval v = val) {w' : World} (hrun : (Instr.mapUpdate t mv key val).run P w = .ok () w') (hK : K (a.put o.dst undef) w') : if Region.wanted o (yielded ops a.tmps) = true then Oper.wpIn F n P o a w K Q else E := by
  rw [if_pos (by simp [Region.wanted, hg])]
  unfold Oper.wpIn
  refine ⟨?_, ?_⟩
  · simp [Oper.about, hop]
  · rw [Oper.semAt_plain F _ _ (by rw [hop]; intro c hc'; cases hc')]
    simp [execOp, hop, hm, hx, hv, hrun, Result.andThen]
    exact hK

/-- A map of empty rows, told by refs that were given. -/
def MapN (W : World) (m n : Nat) (rs : List Rl) : Prop := ∃ D : DataW Value, W.ownsMap Tryz.prog 68 RV m (Maps.size D) D ∧ Maps.size D = n ∧ (∀ o v, B32 o → B32 v → Maps.has D (litR o v) = hasR o v rs) ∧ (∀ o v, B32 o → B32 v → D.atKey (litR o v) (.held (.slice none 0 0)) = .held (.slice none 0 0))
theorem MapN.new (w : World) : MapN (w.alloc (.map #[] 0)) w.heap.size 0 [] :=
  ⟨.map [], World.ownsMap_made w _ _ _, rfl, fun _ _ _ _ => rfl, fun _ _ _ _ => rfl⟩
theorem MapN.lt {W : World} {m n : Nat} {rs : List Rl} (h : MapN W m n rs) : m < W.heap.size := by obtain ⟨D, h1, -⟩ := h; exact h1.lt
theorem MapN.kept {W W' : World} {m n : Nat} {rs : List Rl} {row : Option Nat} (h : MapN W m n rs) (hg : W.grownBy W' row) (hne : some m ≠ row) : MapN W' m n rs := by
  obtain ⟨D, h1, h2⟩ := h
  exact ⟨D, h1.kept hg hne, h2⟩
theorem MapN.kp {W W' : World} {m n : Nat} {rs : List Rl} {S : Nat → Prop} (h : MapN W m n rs) (hk : Kp S W W') (hs : ¬ S m) : MapN W' m n rs := by
  obtain ⟨D, ⟨es, cl, hb, h1⟩, h2⟩ := h
  exact ⟨D, ⟨es, cl, (hk.block m (Array.getElem?_eq_some_iff.1 hb).1 hs).trans hb, h1⟩, h2⟩
theorem MapN.map {W : World} {m n : Nat} {rs : List Rl} (h : MapN W m n rs) (hn : n ≤ 1000 ∧ n = rs.length) : MapT W m rs (fun _ _ => []) := by
  obtain ⟨D, h1, h2, h3, h4⟩ := h
  exact ⟨D, h1, by omega, h3, fun o v ho hv => ⟨_, h4 o v ho hv, RwA.nil W⟩⟩
theorem MapN.stored {W : World} {m n : Nat} {rs : List Rl} (h : MapN W m n rs) (hn : n < 1000) {r : Rl} (ho : B32 r.oid) (hv : B32 r.ver) :
    ∃ W', (Instr.mapUpdate 91 (.map (some m)) (.agg #[.int .u32 r.oid, .int .u32 r.ver]) (.slice none 0 0)).run Tryz.prog W = .ok () W' ∧ MapN W' m (if hasR r.oid r.ver rs = true then n else n + 1) (rs ++ [r]) ∧ W.grownBy W' (some m) := by
  obtain ⟨D, h1, h2, h3, h4⟩ := h
  obtain ⟨W', hrun, how, hg⟩ := h1.update Tryz.lawRef Tryz.underlying91 (val := .slice none 0 0) (d := .held (.slice none 0 0)) (ps := []) (by unfold maxLen; omega) (keyRef ho hv) rfl
  have hk := Tryz.lawRef.key (keyRef ho hv)
  have hM := h1.isMap
  refine ⟨W', hrun, ⟨_, ownsMap_size how, ?_, fun a b ha hb => ?_, fun a b ha hb => ?_⟩, hg⟩
  · rw [Maps.size_put (h1.tidy Tryz.lawRef), h3 _ _ ho hv, h2]
  · have e : hasR a b (rs ++ [r]) = (hasR a b rs || isR a b r) := by unfold hasR; rw [List.any_append]; simp
    rw [e]
    by_cases q : a = r.oid ∧ b = r.ver
    · obtain ⟨rfl, rfl⟩ := q
      rw [Maps.has_put_same hM hk]; simp [isR]
    · rw [Maps.has_put_other (fun z => q (litR_inj ha hb ho hv z)), h3 a b ha hb]
      have : isR a b r = false := decide_eq_false (fun z => q ⟨z.1.symm, z.2.symm⟩)
      rw [this, Bool.or_false]
  · by_cases q : a = r.oid ∧ b = r.ver
    · obtain ⟨rfl, rfl⟩ := q
      exact Maps.atKey_put_same hM hk _ _
    · exact (Maps.atKey_put_other (fun z => q (litR_inj ha hb ho hv z)) _ _).trans (h4 a b ha hb)

/-- The refs of relations. -/
def rfOf (l : List Rl) : List Rf := l.map fun r => ⟨r.oid, r.ver⟩
theorem cat_step {L : List Rl} (hl : CatOk L) (pre : List Rl) {r : Rl} (hr : r ∈ L) : addL (L.filter (ofRefs (rfOf pre))) r = L.filter (ofRefs (rfOf (pre ++ [r]))) := by
  have hk : pre.length < (rfOf (pre ++ [r])).length := by unfold rfOf; simp
  have e0 : (rfOf (pre ++ [r]))[pre.length] = ⟨r.oid, r.ver⟩ := by unfold rfOf; simp
  obtain ⟨i, hi, rfl⟩ := List.getElem_of_mem hr
  have hg := hl.srt.get_at hi (o := L[i].oid) (v := L[i].ver) ⟨rfl, rfl⟩
  have h1 := only_step hl hk (r := L[i]) (by rw [e0]; exact hg)
  have e1 : (rfOf (pre ++ [L[i]])).take pre.length = rfOf pre := by unfold rfOf; rw [List.map_append, List.take_left' (by simp)]
  have e2 : (rfOf (pre ++ [L[i]])).take (pre.length + 1) = rfOf (pre ++ [L[i]]) := List.take_of_length_le (by unfold rfOf; simp)
  rw [e1, e2] at h1
  exact h1
theorem cat_len {L : List Rl} (hl : CatOk L) (pre : List Rl) {r : Rl} (hr : r ∈ L) : (L.filter (ofRefs (rfOf (pre ++ [r])))).length = if hasR r.oid r.ver pre = true then (L.filter (ofRefs (rfOf pre))).length else (L.filter (ofRefs (rfOf pre))).length + 1 := by
  have hof : ∀ (l : List Rl) (x : Rl), ofRefs (rfOf l) x = hasR x.oid x.ver l := fun l x => by
    unfold ofRefs rfOf hasR
    rw [List.any_map]
    congr 1
    funext y
    simp only [Function.comp, isR]
    exact decide_eq_decide.2 ⟨fun h => ⟨h.1.symm, h.2.symm⟩, fun h => ⟨h.1.symm, h.2.symm⟩⟩
  have hap : ∀ x : Rl, hasR x.oid x.ver (pre ++ [r]) = (hasR x.oid x.ver pre || isR x.oid x.ver r) := fun x => by unfold hasR; rw [List.any_append]; simp
  rw [← cat_step hl pre hr]
  unfold addL
  cases hh : hasR r.oid r.ver pre with
  | true =>
    have hin : hasR r.oid r.ver (L.filter (ofRefs (rfOf pre))) = true := List.any_eq_true.2 ⟨r, List.mem_filter.2 ⟨hr, by rw [hof]; exact hh⟩, by simp [isR]⟩
    rw [if_neg (show addE (L.filter (ofRefs (rfOf pre))) r ≠ 0 by unfold addE; rw [if_neg (by simpa using hl.right r hr), if_pos hin]; decide), if_pos rfl]
  | false =>
    have hnin : hasR r.oid r.ver (L.filter (ofRefs (rfOf pre))) = false := by
      unfold hasR
      rw [List.any_eq_false]
      intro x hx hq
      have h2 : x.oid = r.oid ∧ x.ver = r.ver := of_decide_eq_true hq
      obtain ⟨h3, h4⟩ := List.mem_filter.1 hx
      rw [hl.srt.uniq h3 hr h2.1 h2.2, hof, hh] at h4
      cases h4
    have hlt : (L.filter (ofRefs (rfOf pre))).length < 64 := by
      rcases Nat.lt_or_ge (L.filter (ofRefs (rfOf pre))).length 64 with h | h
      · exact h
      · have h2 := List.length_filter_le (ofRefs (rfOf pre)) L
        have h3 := hl.n64
        have h4 : L.filter (ofRefs (rfOf pre)) = L := List.filter_eq_self.2 (List.length_filter_eq_length_iff.1 (by omega))
        rw [h4] at hnin
        have h5 : hasR r.oid r.ver L = true := List.any_eq_true.2 ⟨r, hr, by simp [isR]⟩
        rw [h5] at hnin; cases hnin
    rw [if_pos (show addE (L.filter (ofRefs (rfOf pre))) r = 0 by unfold addE; rw [if_neg (by simpa using hl.right r hr), if_neg (by rw [hnin]; simp), if_neg (by omega)]), if_neg (by simp), insR_len]
theorem cat_all {L : List Rl} : L.filter (ofRefs (rfOf L)) = L := by
  rw [List.filter_eq_self]
  intro x hx
  unfold ofRefs rfOf
  rw [List.any_eq_true]
  exact ⟨⟨x.oid, x.ver⟩, List.mem_map.2 ⟨x, hx, rfl⟩, by simp [isR]⟩
theorem cat_none {L : List Rl} : L.filter (ofRefs (rfOf [])) = [] := by
  rw [List.filter_eq_nil_iff]
  intro x _
  simp [ofRefs, rfOf]

/-- What is known while relations are handed out. -/
structure NwI (w W4 : World) (N C m G V : Nat) (L : List Rl) (pre : List RR) (W : World) : Prop where
  ca : ∃ cv qs, Ca W N C cv qs ∧ qs.map RR.r = L.filter (ofRefs (rfOf (pre.map RR.r)))
  mp : MapN W m (L.filter (ofRefs (rfOf (pre.map RR.r)))).length (pre.map RR.r)
  bs : BsAt W G C m
  v : Blk W V #[.pointer (some ⟨G, 0, none⟩)] 28
  w : Below w.heap.size w W
  z : W4.heap.size ≤ W.heap.size

theorem Kp.undrew {S : Nat → Prop} {W W' : World} (h : Kp S W.drew W') : Kp S W W' := ⟨h.os, h.tape, h.output, h.size, h.block⟩
theorem own_not {W : World} {N n g : Nat} {e t : TypeId} {size : Nat} {v : Value} {xs : List Value} {cs : Array Value} (h : W.ownsRow N e size v n xs) (hb : Blk W g cs t) (hne : t ≠ e) : v.ownBlock ≠ some g := fun h2 => by
  rcases h.2 with ⟨h1, -⟩ | ⟨g2, cap, cur, h1, -, h3, -⟩
  · rw [h1] at h2; cases h2
  · rw [h1] at h2
    have e3 : g2 = g := by simpa [Value.ownBlock] using h2
    rw [e3, show W.heap[g]? = _ from hb] at h3
    simp only [Option.some.injEq, Obj.cells.injEq] at h3
    exact hne h3.2.1
theorem own_no_map {W : World} {N n m : Nat} {e : TypeId} {size : Nat} {v : Value} {xs : List Value} {es : Array MapEntry} {cl : Nat} (h : W.ownsRow N e size v n xs) (hb : W.heap[m]? = some (.map es cl)) : v.ownBlock ≠ some m := fun h2 => by
  rcases h.2 with ⟨h1, -⟩ | ⟨g2, cap, cur, h1, -, h3, -⟩
  · rw [h1] at h2; cases h2
  · rw [h1] at h2
    have e3 : g2 = m := by simpa [Value.ownBlock] using h2
    rw [e3, hb] at h3; cases h3

set_option maxRecDepth 100000 in
set_option maxHeartbeats 8000000 in
theorem tnew_in (F : Fence) (n : Nat) (hFe : F = Fence.wide) (h1F : F.fn 59) (hAF : F.fn 34) (hOF : F.fn 60) (hNF : F.fn 33) (hDF : F.fn 35) (hTF : F.fn 9) (hro : F.round = none) (hn : 4 ≤ n) (N g : Nat) (c : Value) (ps : List RR) (w : World) (hc : Ca w N g c ps) (hB : ∀ p ∈ ps, B32 p.r.oid ∧ B32 p.r.ver) :
    CallsIn F n Tryz.prog 9 #[.pointer (some ⟨g, 0, none⟩)] w fun e w' => ∃ G qs, e = .returned (.pointer (some ⟨G, 0, none⟩)) ∧ w.heap.size ≤ G ∧ Bs w' w.heap.size G qs (fun _ _ => []) ∧ qs.map RR.r = ps.map RR.r ∧ Ext w w' := by
  have h1 : 1 ≤ n := by omega
  have HC := Hid.mk' hc
  have HB := Hid.mk' hB
  have HNW := Hid.mk' (fun m W => (show CallsIn F m Tryz.prog 33 #[] W _ from by rw [hFe]; exact callsIn_wide.2 (new_any W)))
  have HAD := Hid.mk' (fun m N g c ps q W h1 h2 h3 h4 => (show CallsIn F m Tryz.prog 35 #[.pointer (some ⟨g, 0, none⟩), q.agg] W (CAddPost N g c ps q W) from by rw [hFe]; exact callsIn_wide.2 (cadd_any N g c ps q W h1 h2 h3 h4)))
  have HFE := Hid.mk' hFe
  have mixed : Tryz.prog.follows .mixedOrders = true := by kernel_rfl
  have hmm := @run_makeMap Tryz.prog
  clear hc hB hFe
  refine callsIn_of_wp_marks Tryz.func9 rfl hTF ?_ hro
  simp only [Tryz.ntmps9, List.size_toArray, List.length_cons, List.length_nil, Nat.reduceAdd, Nat.reduceSub, Array.replicate_succ, Array.replicate_zero, List.push_toArray, List.append_toArray, List.nil_append, List.cons_append]
  gi_wp2_with (first
    | (gi_at_call 33; refine (HNW.out (n - 1) _).mono ?_; rintro e w' ⟨rfl, rfl⟩)
    | (gi_at_call 34; refine (all_in F (n - 1) hAF hro _ _).mono ?_; rintro e w' ⟨rfl, rfl⟩))
  obtain ⟨W4, hW4⟩ : ∃ W4, W4 = (((((w.alloc (.cells #[.slice none 0 0] 149)).alloc (.map #[] 0)).alloc (.cells #[.pointer (some ⟨w.heap.size, 0, none⟩), .map (some (w.heap.size + 1))] 93)).alloc (.cells #[.pointer (some ⟨w.heap.size + 1 + 1, 0, none⟩)] 28)).alloc (.cells #[.pointer (some ⟨g, 0, none⟩)] 26)) := ⟨_, rfl⟩
  have hz4 : W4.heap.size = w.heap.size + 1 + 1 + 1 + 1 + 1 := by rw [hW4]; simp
  have hE4 : Ext w W4 := by rw [hW4]; exact eX
  have hCA : Ca W4 w.heap.size w.heap.size (.slice none 0 0) [] := by rw [hW4]; exact (Ca.new w).ext (by exact eX)
  have hMP : MapN W4 (w.heap.size + 1) 0 [] := by
    rw [hW4]
    have h2 := MapN.new (w.alloc (.cells #[.slice none 0 0] 149))
    rw [World.size_alloc] at h2
    exact h2.kept (row := none) (ext_grown (by exact eX)) (by simp)
  have hBS : BsAt W4 (w.heap.size + 1 + 1) w.heap.size (w.heap.size + 1) := by rw [hW4]; exact ((Blk.new' _ _ (by simp)).alloc _).alloc _
  have hV : Blk W4 (w.heap.size + 1 + 1 + 1) #[.pointer (some ⟨w.heap.size + 1 + 1, 0, none⟩)] 28 := by rw [hW4]; exact (Blk.new' _ _ (by simp)).alloc _
  have hB4 : Blk W4 (w.heap.size + 1 + 1 + 1 + 1) #[.pointer (some ⟨g, 0, none⟩)] 26 := by rw [hW4]; exact Blk.new' _ _ (by simp)
  rw [← hW4]
  have HE4 := Hid.mk' hE4
  clear hW4 hE4 hmm
  have HCO := Hid.mk' HC.out.ok
  have hI : OwnFrom W4.heap.size (NwI w W4 w.heap.size w.heap.size (w.heap.size + 1) (w.heap.size + 1 + 1) (w.heap.size + 1 + 1 + 1) (ps.map RR.r)) := by
    rintro s A B row ⟨⟨cv, qs, q1, q2⟩, q3, q4, q5, q6, q7⟩ hg hr
    have hr2 : ∀ r, row = some r → ∃ o : Obj, A.heap[r]? = some o ∧ o.isCells = false := fun r e => (hr r e).2
    have hlo : ∀ r, row = some r → W4.heap.size ≤ r := fun r e => (hr r e).1
    have hk : ∀ {b : Nat} {cs : Array Value} {t : TypeId}, Blk A b cs t → Blk B b cs t := fun {b cs t} hb => hb.kp (Kp.of_grown hg) (fun e => by
      obtain ⟨ob, ho, hn⟩ := hr2 b e
      rw [show A.heap[b]? = _ from hb] at ho; cases ho; simp [Obj.isCells] at hn)
    have hkp := Kp.of_grown hg
    refine ⟨⟨cv, qs, ?_, q2⟩, q3.kept hg (fun e => by have := hlo _ e.symm; omega), hk q4, hk q5, q6.grown hg (by omega) (fun k e => by have := hlo k e; omega), Nat.le_trans q7 hg.size⟩
    refine q1.kp hkp (fun e => by have := hlo _ e; omega) (fun b e e2 => ?_) (fun p hp h0 b o e e2 => ?_)
    · obtain ⟨ob, ho, hnc⟩ := hr2 b e2
      rcases q1.own.2 with ⟨hv, -⟩ | ⟨gg, cap, cur, hv, -, hh, -⟩
      · rw [hv] at e; cases e
      · rw [hv] at e
        have : gg = b := by simpa [Value.ownBlock] using e
        rw [this, ho] at hh; cases hh; simp [Obj.isCells] at hnc
    · obtain ⟨ob, ho, hnc⟩ := hr2 b e2
      obtain ⟨b', o2, e3, hb3, hc3⟩ := Sl.at_ (q1.sl p hp) (i := 0) (by rw [List.length_map]; exact List.length_pos_iff.2 h0)
      rw [e] at e3; cases e3
      have h5 := hc3 0 (by omega)
      unfold World.cell? at h5
      rw [ho] at h5
      cases hxx : p.r.cols with
      | nil => exact h0 hxx
      | cons d ds =>
        rw [hxx] at h5
        cases ob <;> simp [Obj.isCells, Col.cells] at hnc h5
  refine wpIn_range_told hro h1 (gf := 59) (lb := #[.pointer (some ⟨w.heap.size + 1 + 1 + 1 + 1, 0, none⟩)]) rfl h1F (enters_of Tryz.func59 (by kernel_rfl) rfl)
    (allm_told F (n - 1) HFE.out h1F hOF hro (by omega) (w.heap.size + 1 + 1 + 1 + 1) w W4 N g c ps HC.out HE4.out (hB4.cell 0) hB4.lt) (by omega) (Below.refl _ _) (fun _ => rfl)
    (NwI w W4 w.heap.size w.heap.size (w.heap.size + 1) (w.heap.size + 1 + 1) (w.heap.size + 1 + 1 + 1) (ps.map RR.r)) hI
    ⟨⟨_, [], hCA, cat_none.symm⟩, (by rw [show ([] : List RR).map RR.r = [] from rfl, cat_none]; exact hMP), hBS, hV, HE4.out, Nat.le_refl _⟩
    (fun x a' W => ∃ X Y, a' = { tmps := #[.pointer (some ⟨g, 0, none⟩), undef, .pointer none, .pointer (some ⟨w.heap.size + 1 + 1 + 1, 0, none⟩), .pointer (some ⟨X, 0, none⟩), .pointer (some ⟨Y, 0, none⟩), .pointer (some ⟨w.heap.size, 0, none⟩), .map (some (w.heap.size + 1)), .agg #[.pointer (some ⟨w.heap.size, 0, none⟩), .map (some (w.heap.size + 1))], .pointer (some ⟨w.heap.size + 1 + 1, 0, none⟩), .pointer (some ⟨g, 0, none⟩), .func (.func 59) #[] #[.pointer (some ⟨w.heap.size + 1 + 1 + 1 + 1, 0, none⟩)], .agg #[.int .u32 x.r.oid, .int .u32 x.r.ver], .agg #[.int .u32 x.r.oid, .int .u32 x.r.ver, .string x.r.nm, .int .u8 x.r.id, .slice x.a x.r.cols.length x.c], undef, undef, undef, undef, undef, undef, undef, undef, undef, undef, undef, undef], defers := [] } ∧ W4.heap.size ≤ X ∧ W4.heap.size ≤ Y ∧ Blk W X #[.int .u32 x.r.oid, .int .u32 x.r.ver] 68 ∧ Blk W Y #[.int .u32 x.r.oid, .int .u32 x.r.ver, .string x.r.nm, .int .u8 x.r.id, .slice x.a x.r.cols.length x.c] 99 ∧ x.in W ∧ x.r.cols.length ≤ 1000 ∧ x.r ∈ ps.map RR.r ∧ x.r.cols.length ≤ x.c)
    ?hAx ?assign ?body ?done
  case hAx =>
    rintro x a' W l o' ⟨X, Y, q1, q2, q3, q4, q5, q6, q7, q8, q9⟩ hl ⟨ob, hob, hnc⟩
    have hg := grownBy_putObj' W l o'
    have hk : ∀ {b : Nat} {cs : Array Value} {t : TypeId}, Blk W b cs t → Blk (W.putObj l o') b cs t := fun {b cs t} hb => hb.kp (Kp.of_grown hg) (fun e => by
      injection e with e
      subst e
      rw [show W.heap[l]? = _ from hb] at hob; cases hob; simp [Obj.isCells] at hnc)
    refine ⟨X, Y, q1, q2, q3, hk q4, hk q5, Sl.kp q6 (Kp.of_grown hg) (fun h0 b o e e2 => ?_), q7, q8, q9⟩
    injection e2 with e2
    subst e2
    obtain ⟨b', o2, e3, hb3, hc3⟩ := Sl.at_ q6 (i := 0) (List.length_pos_iff.2 h0)
    rw [e] at e3; cases e3
    have h5 := hc3 0 (by omega)
    unfold World.cell? at h5
    rw [show W.heap[l]? = some ob from hob] at h5
    cases hxx : x.r.cols with
    | nil => rw [hxx] at h0; exact h0 rfl
    | cons d ds =>
      rw [hxx] at h5
      cases ob <;> simp [Obj.isCells, Col.cells] at hnc h5
  case assign =>
    rintro l pre x W K ⟨⟨cv, qs, q1, q2⟩, q3, q4, q5, q6, q7⟩ ⟨hx1, hx2, hx3, hx4⟩ hK
    unfold encA
    rw [fold_two]
    gi_wp2
    have hEW : Ext W ((W.alloc (.cells #[.int .u32 x.r.oid, .int .u32 x.r.ver] 68)).alloc (.cells #[.int .u32 x.r.oid, .int .u32 x.r.ver, .string x.r.nm, .int .u8 x.r.id, .slice x.a x.r.cols.length x.c] 99)) := by exact eX
    exact hK _ _ (((KeepsOthers.alloc _ _).trans (KeepsOthers.alloc _ _)).from _) (hEW.mono (by omega)) ⟨⟨cv, qs, q1.ext hEW, q2⟩, q3.kept (row := none) (ext_grown hEW) (by simp), q4.ext hEW, q5.ext hEW, q6.trans (hEW.mono (by omega)), by simp; omega⟩
      ⟨W.heap.size, W.heap.size + 1, rfl, q7, by omega, (Blk.new _ _ _).alloc _, Blk.new' _ _ (by simp), hx1.ext hEW, hx2, hx3, hx4⟩
  case body =>
    rintro l pre x a' W ⟨⟨cv, qs, q1, q2⟩, q3, q4, q5, q6, q7⟩ hlen ⟨X, Y, rfl, hX, hY, hbX, hbY, hxi, hxn, hxm, hxc⟩
    have h11 : 1 ≤ n - 1 - 1 := by omega
    have hn64 := HC.out.n64
    obtain ⟨p0, hp0, hpe⟩ := List.mem_map.1 hxm
    have hb32 : B32 x.r.oid ∧ B32 x.r.ver := by rw [← hpe]; exact HB.out p0 hp0
    have hwb : x.r.wb := by rw [← hpe]; exact HC.out.wb p0 hp0
    have HFIN : Hid (∀ (w5 w6 : World) (cv' : Value) (q' : RR), q'.r = x.r → Ca w5 w.heap.size w.heap.size cv' (addP qs q') → Kp (Ca.S w.heap.size cv) W w5 → MapN w6 (w.heap.size + 1) (if hasR x.r.oid x.r.ver (pre.map RR.r) = true then ((ps.map RR.r).filter (ofRefs (rfOf (pre.map RR.r)))).length else ((ps.map RR.r).filter (ofRefs (rfOf (pre.map RR.r)))).length + 1) (pre.map RR.r ++ [x.r]) → w5.grownBy w6 (some (w.heap.size + 1)) →
        goesOn W4.heap.size w.heap.size (NwI w W4 w.heap.size w.heap.size (w.heap.size + 1) (w.heap.size + 1 + 1) (w.heap.size + 1 + 1 + 1) (ps.map RR.r)) (pre ++ [x]) W .normal { tmps := #[], defers := [] } w6) := Hid.mk' (fun w5 w6 cv' q' hqr hca hkp hm hg => by
      obtain ⟨D, ⟨es, cl, hbm, -⟩, -⟩ := id q3
      have nm : ¬ Ca.S w.heap.size cv (w.heap.size + 1) := fun h => h.elim (fun e => by omega) (fun e => own_no_map q1.own hbm e)
      have ng : ¬ Ca.S w.heap.size cv (w.heap.size + 1 + 1) := fun h => h.elim (fun e => by omega) (fun e => own_not q1.own q4 (by decide) e)
      have nv : ¬ Ca.S w.heap.size cv (w.heap.size + 1 + 1 + 1) := fun h => h.elim (fun e => by omega) (fun e => own_not q1.own q5 (by decide) e)
      have k6 : Kp (fun k => k = w.heap.size + 1) w5 w6 := (Kp.of_grown hg).mono (fun x hx _ => by injection hx with hx; exact hx.symm)
      have hbm5 : w5.heap[w.heap.size + 1]? = some (.map es cl) := (hkp.block _ (Array.getElem?_eq_some_iff.1 hbm).1 nm).trans hbm
      have kall : Kp (fun k => Ca.S w.heap.size cv k ∨ k = w.heap.size + 1) W w6 := (hkp.mono (T := fun k => Ca.S w.heap.size cv k ∨ k = w.heap.size + 1) (fun x hx _ => .inl hx)).trans k6 (fun x hx _ => .inr hx)
      have hca6 : Ca w6 w.heap.size w.heap.size cv' (addP qs q') := hca.kp k6 (fun e => by omega) (fun b e e2 => by rw [e2] at e; exact own_no_map hca.own hbm5 e) (fun p hp h0 b o e e2 => by
        obtain ⟨b', o2, e3, hb3, hc3⟩ := Sl.at_ (hca.sl p hp) (i := 0) (by rw [List.length_map]; exact List.length_pos_iff.2 h0)
        rw [e] at e3; cases e3
        have h5 := hc3 0 (by omega)
        unfold World.cell? at h5
        rw [show b = _ from e2, hbm5] at h5
        cases hxx : p.r.cols with
        | nil => exact h0 hxx
        | cons d ds => rw [hxx] at h5; simp [Col.cells] at h5)
      have hS : ∀ k, (Ca.S w.heap.size cv k ∨ k = w.heap.size + 1) → w.heap.size ≤ k := fun k hk => hk.elim (fun h => q1.S_ge k h) (fun h => by omega)
      refine ⟨⟨kall.size, fun k ob hk hob hnc => (kall.block k (Array.getElem?_eq_some_iff.1 hob).1 (fun hs => ?_)).trans hob⟩, ⟨kall.os, kall.tape, kall.output, kall.size, fun k hk => kall.block k (by have := q6.size; omega) (fun hs => by have := hS k hs; omega)⟩, ⟨⟨cv', addP qs q', hca6, ?_⟩, ?_, ?_, ?_, ?_, Nat.le_trans q7 kall.size⟩⟩
      · rcases hs with (hs | hs) | hs
        · omega
        · rcases q1.own.2 with ⟨hv, -⟩ | ⟨gg, cap, cur, hv, -, hh, -⟩
          · rw [hv] at hs; cases hs
          · rw [hv] at hs
            have : gg = k := by simpa [Value.ownBlock] using hs
            subst this
            rw [hh] at hob; cases hob; simp [Obj.isCells] at hnc
        · omega
      · rw [addP_r, q2, hqr, List.map_append]
        exact cat_step HCO.out (pre.map RR.r) hxm
      · rw [List.map_append, show [x].map RR.r = [x.r] from rfl, cat_len HCO.out (pre.map RR.r) hxm]; exact hm
      · exact Blk.kp (g := w.heap.size + 1 + 1) q4 kall (fun h => h.elim ng (fun e => by omega))
      · exact q5.kp kall (fun h => h.elim nv (fun e => by omega))
      · exact Kp.ext q6 (fun x hs hx => hS x hs) kall)
    obtain ⟨⟨oid, ver, nm0, id, cols⟩, a2, c2⟩ := x
    simp only at hbX hbY hxn hxm hxc hb32 HFIN ⊢
    have HA := Hid.mk' (fun W' (h : Ext W W') => HAD.out (n - 1 - 1 - 1) w.heap.size w.heap.size cv qs (⟨⟨oid, ver, nm0, id, cols⟩, a2, c2⟩ : RR) W' (q1.ext h) (hxi.ext h) hxc hwb)
    unfold RR.agg at HA
    simp only at HA
    have g0 := q5.cell
    have gz := q5.lt
    have b0 := q4.cell0
    have bz := Blk.lt q4
    have gY := hbY.cell
    have gYz := hbY.lt
    have HX := Hid.mk' hbX
    have HQ4 := Hid.mk' q4
    have HQ5 := Hid.mk' q5
    have HQ3 := Hid.mk' q3
    have HQ1 := Hid.mk' q1.own
    have hXw : w.heap.size < X := by omega
    clear hbX hbY hxi hxm hwb hpe q4 q5 q1 q2 q3 hz4
    gi_wp2
    gi_region_with_o (first | (gi_at_call 35; refine (CallsIn.inRound l (HA.out _ (by exact eX))).mono ?_; rintro e w5 ⟨cv', q', rfl, hqr, hca, hkp, hnew⟩; have HQR := Hid.mk' hqr; have HCA := Hid.mk' hca; have HKP := Hid.mk' (Kp.undrew hkp); clear hqr hca hkp hnew))
    all_goals
      have nm : ¬ Ca.S w.heap.size cv (w.heap.size + 1) := by
        obtain ⟨D, ⟨es, cl, hbm, -⟩, -⟩ := HQ3.out
        exact fun h => h.elim (fun e => by omega) (fun e => own_no_map HQ1.out hbm e)
      have hB5 := Blk.kp (g := w.heap.size + 1 + 1) HQ4.out HKP.out (fun h => h.elim (fun e => by omega) (fun e => own_not HQ1.out HQ4.out (by decide) e))
      have hV5 := HQ5.out.kp HKP.out (fun h => h.elim (fun e => by omega) (fun e => own_not HQ1.out HQ5.out (by decide) e))
      have hX5 := HX.out.kp HKP.out (fun h => h.elim (fun e => by omega) (fun e => own_not HQ1.out HX.out (by decide) e))
      have hM5 := HQ3.out.kp HKP.out nm
      obtain ⟨w6, hrun, hm6, hg6⟩ := MapN.stored (W := w5.drew) hM5 (r := ⟨oid, ver, nm0, id, cols⟩) (by have h1 := List.length_filter_le (ofRefs (rfOf (pre.map RR.r))) (ps.map RR.r); rw [List.length_map] at h1; omega) hb32.1 hb32.2
      have HM6 := Hid.mk' hm6
      have HG6 := Hid.mk' (show w5.grownBy w6 (some (w.heap.size + 1)) from ⟨hg6.os, hg6.tape, hg6.output, hg6.size, hg6.block⟩)
      have k0 := hV5.cell
      have kz := hV5.lt
      have j0 := hB5.cell
      have jz := hB5.lt
      have i0 := hX5.cell
      have iz := hX5.lt
      simp only at hrun
      clear g0 gz b0 bz gY gYz hm6 hg6 hB5 hV5 hX5 nm
      gi_wp2
      gi_region_with_o (first | (refine stepIn_mapUpdate rfl _ _ _ 91 rfl _ _ _ (by rfl) (by rfl) (by rfl) hrun ?_))
      all_goals
        gi_wp2
        exact HFIN.out w5 w6 cv' q' HQR.out HCA.out HKP.out HM6.out HG6.out
  case done =>
    intro D xs W hD hys hall hK
    obtain ⟨⟨cv, qs, q1, q2⟩, q3, q4, q5, q6, q7⟩ := hI.putObj (.deferred none) hall hD hK rfl
    have g5 := hall.v.cell
    have g5z := hall.v.lt
    have hxl : xs.length = ps.length := by have h1 := congrArg List.length hys; simpa using h1
    have hn64 := HC.out.n64
    gi_wp2
    refine ⟨by simp, .inl ⟨_, _, rfl, run_takeDeferred hK, ?_⟩⟩
    refine ⟨.pointer (some ⟨w.heap.size + 1 + 1, 0, none⟩), ?_, w.heap.size + 1 + 1, qs, rfl, by omega, ⟨w.heap.size, cv, w.heap.size + 1, q4, q1, ?_⟩, ?_, q6⟩
    · simp [results, Tryz.f9, go_sem]
    · have h1 := q3.map (by rw [hys, cat_all, List.length_map]; omega)
      rw [hys] at h1
      rw [q2, hys, cat_all]
      exact h1
    · rw [q2, hys, cat_all]

theorem tnew_any (N g : Nat) (c : Value) (ps : List RR) (w : World) (hc : Ca w N g c ps) (hB : ∀ p ∈ ps, B32 p.r.oid ∧ B32 p.r.ver) :
    Calls Tryz.prog 9 #[.pointer (some ⟨g, 0, none⟩)] w fun e w' => ∃ G qs, e = .returned (.pointer (some ⟨G, 0, none⟩)) ∧ w.heap.size ≤ G ∧ Bs w' w.heap.size G qs (fun _ _ => []) ∧ qs.map RR.r = ps.map RR.r ∧ Ext w w' :=
  callsIn_wide.1 (tnew_in Fence.wide 4 rfl trivial trivial trivial trivial trivial trivial rfl (Nat.le_refl _) N g c ps w hc hB)

end Go.Proofs.YtkhlgoafeacdcaaGreat

/-
Two bases of the same tables are the same: the program's Same.
-/
namespace Go.Proofs.YtkhlgoafeacdcaaGreat
open Go.RowKit Go.Maps

set_option maxRecDepth 100000 in set_option maxHeartbeats 4000000 in
theorem eqrows_any (ls : List (List K)) (v1 v2 : Value) (w : World) (h1 : RwA 5 K.pc w v1 ls) (h2 : RwA 5 K.pc w v2 ls) (hn : ls.length ≤ 1000) (hm : ∀ x ∈ ls, x.length ≤ 1000) :
    Calls Tryz.prog 44 #[v1, v2, .func (.func 30) #[] #[]] w fun e w' => e = .returned (.bool true) ∧ Ext w w' := by
  obtain ⟨a1, c1, qs, rfl, hs1, hl1⟩ := h1
  obtain ⟨a2, c2, ks, rfl, hs2, hl2⟩ := h2
  have hql : qs.length = ls.length := by rw [← hl1, List.length_map]
  have hkl : ks.length = ls.length := by rw [← hl2, List.length_map]
  have HQ := Hid.mk' hql
  have HK := Hid.mk' hkl
  rw [hql] at hs1 ⊢
  rw [hkl] at hs2 ⊢
  have H1 := Hid.mk' hs1
  have H2 := Hid.mk' hs2
  have HA := Hid.mk' (fun k (hk : k < ls.length) (h1 : k < qs.length) (h2 : k < ks.length) W (h : Ext w W) => (show Calls Tryz.prog 30 #[.slice qs[k].a qs[k].l.length qs[k].c, .slice ks[k].a ks[k].l.length ks[k].c] W (fun e w' => e = .returned (.bool true) ∧ Ext W w') from by
    have e1 : qs[k].l = ls[k] := by simp [← hl1]
    have e2 : ks[k].l = ls[k] := by simp [← hl2]
    have h3 := alike_any qs[k].l ks[k].l qs[k].a ks[k].a qs[k].c ks[k].c W ((hs1.sl _ (List.getElem_mem h1)).ext h) ((hs2.sl _ (List.getElem_mem h2)).ext h) (by rw [e1]; exact hm _ (List.getElem_mem hk)) (by rw [e2]; exact hm _ (List.getElem_mem hk))
    rw [show rowB qs[k].l ks[k].l = true from rowB_true.2 (e1.trans e2.symm)] at h3
    exact h3))
  clear hs1 hs2 hl1 hl2 hm hql hkl
  go_enter Tryz.func44, Tryz.ntmps44
  go_wp2
  go_loopw [17] (fun i wr => ∃ k : Nat, k ≤ ls.length ∧ i = .int .i64 k ∧ Hid (Ext w wr)) (fun i _ => ls.length - (intOf i).toNat)
  case atStart => exact ⟨0, Nat.zero_le _, rfl, Hid.mk' (Ext.refl _)⟩
  case round =>
    obtain ⟨k, hk, rfl, hE⟩ := hrel
    by_cases hlt : k < ls.length
    · have hk1 : k < qs.length := by have := HQ.out; omega
      have hk2 : k < ks.length := by have := HK.out; omega
      obtain ⟨b, o, rfl, hb, hx⟩ := H1.out.row.at_ (i := k) (by simpa using hk1)
      have f0 := PR.at_ hk1 hx hb hE.out
      obtain ⟨b2, o2, rfl, hb2, hx2⟩ := H2.out.row.at_ (i := k) (by simpa using hk2)
      have f2 := PR.at_ hk2 hx2 hb2 hE.out
      have hbw : b < wr.heap.size := Nat.lt_of_lt_of_le hb hE.out.size
      have hbw2 : b2 < wr.heap.size := Nat.lt_of_lt_of_le hb2 hE.out.size
      have HAK := Hid.mk' (fun W h => HA.out k hlt hk1 hk2 W h)
      obtain ⟨q, hq⟩ : ∃ q, q = qs[k] := ⟨_, rfl⟩
      obtain ⟨p, hp⟩ : ∃ p, p = ks[k] := ⟨_, rfl⟩
      rw [← hq] at f0 HAK
      rw [← hp] at f2 HAK
      clear hq hp hx hx2
      go_wp2_with (go_at_call 30; refine (HAK.out _ (hE.out.trans (by exact eX))).mono ?_; rintro e w1 ⟨rfl, hb1⟩)
      go_roundw
      case rel => exact ⟨k + 1, by omega, by go_num, Hid.mk' (hE.out.trans (by exact eX))⟩
      case measure => simp [intOf]; omega
    · obtain rfl : k = ls.length := by omega
      go_wp2
      go_ret
      exact ⟨rfl, hE.out⟩

set_option maxRecDepth 100000 in set_option maxHeartbeats 1600000 in
theorem same1_any (ls : List (List K)) (v1 v2 : Value) (w : World) (h1 : RwA 5 K.pc w v1 ls) (h2 : RwA 5 K.pc w v2 ls) (hn : ls.length ≤ 1000) (hm : ∀ x ∈ ls, x.length ≤ 1000) :
    Calls Tryz.prog 43 #[v1, v2] w fun e w' => e = .returned (.bool true) ∧ Ext w w' := by
  have H := Hid.mk' (eqrows_any ls v1 v2 w h1 h2 hn hm)
  clear h1 h2 hm
  go_enter Tryz.func43, Tryz.ntmps43
  go_wp2_with (go_at_call 44; refine H.out.mono ?_; rintro e w1 ⟨rfl, hb1⟩)
  go_ret
  exact ⟨rfl, hb1⟩

theorem ext_of_none {w w' : World} (h : w.grownBy w' none) : Ext w w' := ⟨h.os, h.tape, h.output, h.size, fun k hk => h.block k hk (by simp)⟩
theorem none_of_ext {w w' : World} (h : Ext w w') : w.grownBy w' none := ⟨h.os, h.tape, h.output, h.size, fun k hk _ => h.block k hk⟩

set_option maxRecDepth 100000 in set_option maxHeartbeats 4000000 in
theorem mapsEq_any (m1 m2 : Nat) (rs : List Rl) (T : Tb) (w : World) (h1 : MapT w m1 rs T) (h2 : MapT w m2 rs T) (hT : TbOk T 1000) :
    Calls Tryz.prog 42 #[.map (some m1), .map (some m2), .func (.func 43) #[] #[]] w fun e w' => e = .returned (.bool true) ∧ Ext w w' := by
  obtain ⟨D1, o1, ⟨le1, sz1⟩, has1, at1⟩ := h1
  obtain ⟨D2, o2, ⟨le2, sz2⟩, has2, at2⟩ := h2
  have l1 := fun ty => o1.len (t := 91) Tryz.underlying91 ty
  have l2 := fun ty => o2.len (t := 91) Tryz.underlying91 ty
  rw [sz1] at l1
  rw [sz2] at l2
  have HLK := Hid.mk' (fun o v (ho : B32 o) (hv : B32 v) (hin : hasR o v rs = true) => (show ∃ x, RwA 5 K.pc w x (T o v) ∧ ∀ W', Ext w W' → (Instr.lookup 91 (.map (some m2)) (.agg #[.int .u32 o, .int .u32 v]) true).run Tryz.prog W' = .ok (.tuple #[x, .bool true]) W' from by
    obtain ⟨x, hx, hr⟩ := at2 o v ho hv
    refine ⟨x, hr, fun W' he => ?_⟩
    obtain ⟨y, ps, hrun, hy⟩ := (o2.kept (none_of_ext he) (by simp)).look_ok Tryz.lawRef Tryz.underlying91 (zeroRow _) (show RV (.slice none 0 0) = some (.held (.slice none 0 0), []) from rfl) (keyRef ho hv)
    rw [hx] at hy
    unfold RV at hy
    simp only [Option.some.injEq, Prod.mk.injEq, DataW.held.injEq] at hy
    rw [has2 o v ho hv, hin] at hrun
    rw [← hy.1]; exact hrun))
  have HAS := Hid.mk' has1
  have HAT := Hid.mk' at1
  have HT := Hid.mk' hT
  have HMAP := Hid.mk' o1.isMap
  clear has1 at1 has2 at2 hT o2 le1 le2 sz1 sz2
  go_enter Tryz.func42, Tryz.ntmps42
  go_wp2_with (first
    | (at_range; refine wpList_range_own _ rfl _ 91 rfl 68 66 Tryz.lawRef Tryz.underlying91 RV m1 (Maps.size D1) D1 rfl o1 ?_; intro w0 hrg0 hg0 hs0)
    | go_in)
  go_frame
  have HE0 := Hid.mk' (ext_of_none hg0)
  clear l1 l2 hs0 hg0
  go_loopw [8] (fun _ wr => ∃ (left : Go.Lit → Bool) (cnt : Nat), wr.ranges Tryz.prog 68 RV m1 w.heap.size (Maps.size D1) D1 left cnt ∧ Hid (Ext w wr)) (fun _ wr => wr.rangeLeft m1 w.heap.size)
  case atStart => exact ⟨_, _, hrg0, HE0⟩
  case round =>
    obtain ⟨left, cnt, hrg, hE⟩ := hrel
    go_wp2_with (first
      | (at_next; refine wpList_next_ranges _ rfl _ rfl 68 Tryz.lawRef RV (fun (x : Int × Int) => Value.agg #[.int .u32 x.1, .int .u32 x.2]) (fun (v : Value) => v) (fun key kl hk => by obtain ⟨o, v, hx, _⟩ := keyRef_inv hk; exact ⟨(o, v), hx⟩) (fun v y _ => ⟨v, rfl⟩) m1 w.heap.size (Maps.size D1) _ _ _ rfl hrg ?_ ?_)
      | go_in)
    · intro hc0 hl0
      go_wp2
      go_ret
      exact ⟨rfl, hE.out⟩
    · intro o v cv kl yd yp w2 cnt2 hkey hlk hv hat hrg2 hlt hg2 hs2 hen
      obtain ⟨o', v', ex, ho, hv', rfl⟩ := keyRef_inv hkey
      obtain ⟨rfl, rfl⟩ : o = o' ∧ v = v' := by simpa using ex
      obtain rfl : yd = .held cv := by unfold RV at hv; simp only [Option.some.injEq, Prod.mk.injEq] at hv; exact hv.1.symm
      have hh : hasR o v rs = true := by rw [← HAS.out o v ho hv']; exact has_of_at HMAP.out hat
      obtain ⟨xv, hxv, hrw⟩ := HAT.out o v ho hv'
      obtain rfl : cv = xv := by
        have h1 := hat (.held (.slice none 0 0))
        rw [hxv] at h1
        simpa using h1.symm
      obtain ⟨x2, hr2, hlk2⟩ := HLK.out o v ho hv' hh
      have HE2 := Hid.mk' (Ext.map hE.out hg2 (Nat.le_refl _))
      have HS1 := Hid.mk' (fun W (h : Ext w W) => same1_any (T o v) cv x2 W (hrw.ext h) (hr2.ext h) (HT.out.n o v) (HT.out.r o v))
      have hlk3 : ∀ W', Ext w2 W' → (Instr.lookup 91 (.map (some m2)) (.agg #[.int .u32 o, .int .u32 v]) true).run Tryz.prog W' = .ok (.tuple #[x2, .bool true]) W' := fun W' h => hlk2 W' (HE2.out.trans h)
      have HRG2 := Hid.mk' hrg2
      have HLT := Hid.mk' hlt
      have hlk4 : (Instr.lookup 91 (.map (some m2)) (.agg #[.int .u32 o, .int .u32 v]) true).run Tryz.prog (w2.alloc (.cells #[.int .u32 o, .int .u32 v] 68)) = .ok (.tuple #[x2, .bool true]) (w2.alloc (.cells #[.int .u32 o, .int .u32 v] 68)) := hlk3 _ ((Ext.refl w2).alloc _)
      clear hkey hlk hv hat hxv hh ex hrw hr2 hlk2 hlk3 hs2 hg2 hrg2 hlt
      go_wp2_with (go_at_call 43; refine (HS1.out _ (HE2.out.trans (by exact eX))).mono ?_; rintro e w4 ⟨rfl, hb4⟩; have HB4 := Hid.mk' (show Ext w2 w4 by exact eX); clear hb4)
      have hrg4 := HRG2.out.kept (none_of_ext HB4.out) (by simp) (by simp)
      go_roundw
      case rel => exact ⟨_, _, hrg4, Hid.mk' (HE2.out.trans HB4.out)⟩
      case measure => rw [hrg4.left_eq, hrg.left_eq]; exact HLT.out

set_option maxRecDepth 100000 in set_option maxHeartbeats 4000000 in
theorem bsame_any (N g N2 g2 : Nat) (ps ps2 : List RR) (T : Tb) (w : World) (h1 : Bs w N g ps T) (h2 : Bs w N2 g2 ps2 T) (hps : ps2.map RR.r = ps.map RR.r) (hT : TbOk T 1000) :
    Calls Tryz.prog 14 #[.pointer (some ⟨g, 0, none⟩), .pointer (some ⟨g2, 0, none⟩)] w fun e w' => e = .returned (.bool true) ∧ Ext w w' := by
  obtain ⟨cat, cv, m, hat, hca, hmp⟩ := h1
  obtain ⟨cat2, cv2, m2, hat2, hca2, hmp2⟩ := h2
  rw [hps] at hmp2
  have HM := Hid.mk' (fun W (h : Ext w W) => mapsEq_any m m2 (ps.map RR.r) T W (hmp.ext h) (hmp2.ext h) hT)
  have l0 := hat.cell1
  have lz : g < w.heap.size := Blk.lt hat
  have k0 := hat2.cell1
  have kz : g2 < w.heap.size := Blk.lt hat2
  clear hat hca hmp hat2 hca2 hmp2 hT hps
  go_enter Tryz.func14, Tryz.ntmps14
  go_wp2
  go_region_held3 (fun w' => Ext (w) w' ∧ (∀ b o, b < (w).heap.size → w'.cell? ⟨b, o, none⟩ = (w).cell? ⟨b, o, none⟩) ∧ (∀ b o, b < (w).heap.size → w'.frozen? ⟨b, o, none⟩ = (w).frozen? ⟨b, o, none⟩)) ((exact held_of (by exact eX))) (first | (go_at_call 42; refine (HM.out _ (by exact eX)).mono ?_; rintro e w1 ⟨rfl, hb1⟩))
  go_wp2
  go_ret
  exact ⟨rfl, by exact eX⟩

end Go.Proofs.YtkhlgoafeacdcaaGreat

/-
The example of tables, in plain words.
-/
namespace Go.Proofs.YtkhlgoafeacdcaaGreat
open Go.RowKit

def aw22 : Rl := ⟨1, 1, ⟨#[116]⟩, 1, [⟨⟨#[97]⟩, 2, true⟩]⟩
def aw22r : List K := [⟨2, ⟨2, 1, 0, 0, ⟨#[]⟩⟩⟩]
def aw22e : Ev := ⟨4, 1, 1, 0, [], aw22r, [], 0⟩
theorem aw22_up : ofUp [aw22] 1 = [aw22] := by rfl
theorem aw22_ofE : ofE [aw22] = 0 := by decide
theorem aw22_ofPl : ofPl [aw22] = 1 := by decide
theorem aw22_wb : aw22.wb := ⟨by show 1 ≤ 9223372036854775807; omega, by intro c hc; simp [aw22] at hc; subst hc; show 1 ≤ 9223372036854775807; omega, by show 1 ≤ 5864062014634; omega, by decide⟩
theorem aw22_full : isFullE aw22r aw22 = 0 := by decide
theorem aw22_img : imgE aw22 4 0 [] aw22r = 0 := by
  unfold imgE
  rw [if_neg (by decide), if_neg (by decide), if_neg (by decide), if_neg (by decide), if_neg (by decide), if_neg (by decide), if_neg (by decide), if_neg (by decide), if_neg (by rw [aw22_full]; decide), if_neg (by decide), if_neg (by decide)]
theorem aw22_own : ownB aw22e = true := by
  unfold ownB
  exact evB_true.2 rfl
theorem aw22_get : getR 1 1 [aw22] = some aw22 := by rfl
theorem aw22_ev : evE aw22e [aw22] = 0 := by
  unfold evE
  rw [if_neg (by decide), if_neg (by rw [aw22_own]; simp), if_neg (by decide)]
  rw [show getR aw22e.ao aw22e.av [aw22] = some aw22 from rfl]
  exact aw22_img
theorem aw22_rt {n : Nat} (hn : n ≤ 512) : rtE ⟨1, 0, List.replicate n aw22e⟩ [aw22] = 0 :=
  rt_from (show (1 : Int) ≠ 0 by decide) (by simpa using hn) (fun e he => by rw [List.eq_of_mem_replicate he]; exact aw22_ev)
theorem aw22_key : keyQ aw22.cols aw22r aw22r = true := by unfold keyQ; exact rowB_true.2 rfl
theorem aw22_t0 : takenB aw22.cols [] aw22r (-1) = false := by
  unfold takenB byKeyI
  rfl
theorem aw22_t1 : takenB aw22.cols [aw22r] aw22r (-1) = true := by
  unfold takenB byKeyI
  rw [show idxI (fun i => decide ((i : Int) ≠ -1) && keyQ aw22.cols ([aw22r].getD i []) aw22r) [aw22r].length = 0 from idxI_at (k := 0) (fun i hi => by omega) (by show (decide (((0 : Nat) : Int) ≠ -1) && keyQ aw22.cols aw22r aw22r) = true; rw [aw22_key]; rfl) (by decide)]
  rfl
theorem aw22_e0 : rowsE aw22.cols [] aw22e = 0 := by unfold rowsE; rw [if_pos (show aw22e.kind = 4 from rfl), show takenB aw22.cols [] aw22e.a (-1) = false from aw22_t0]; rfl
theorem aw22_e1 : rowsE aw22.cols [aw22r] aw22e = 9 := by unfold rowsE; rw [if_pos (show aw22e.kind = 4 from rfl), show takenB aw22.cols [aw22r] aw22e.a (-1) = true from aw22_t1]; rfl
theorem aw22_l0 : rowsL aw22.cols [] aw22e = [aw22r] := by unfold rowsL; rw [if_neg (by rw [aw22_e0]; simp), if_pos (show aw22e.kind = 4 from rfl)]; rfl
theorem aw22_x0 : evX [aw22] T0 aw22e = 0 := by
  unfold evX
  rw [if_neg (by decide), show getR aw22e.ao aw22e.av [aw22] = some aw22 from rfl]
  exact aw22_e0
theorem aw22_T1 : evT [aw22] T0 aw22e = T0.put 1 1 [aw22r] := by
  unfold evT
  rw [if_neg (by decide), show getR aw22e.ao aw22e.av [aw22] = some aw22 from rfl]
  show T0.put 1 1 (rowsL aw22.cols [] aw22e) = _
  rw [aw22_l0]
theorem aw22_x1 : evX [aw22] (T0.put 1 1 [aw22r]) aw22e = 9 := by
  unfold evX
  rw [if_neg (by decide), show getR aw22e.ao aw22e.av [aw22] = some aw22 from rfl]
  show rowsE aw22.cols ((T0.put 1 1 [aw22r]) 1 1) aw22e = 9
  rw [show (T0.put 1 1 [aw22r]) 1 1 = [aw22r] from by unfold Tb.put; rw [if_pos ⟨rfl, rfl⟩]]
  exact aw22_e1
/-- Twice the same row: nothing is done. -/
theorem aw22_two : apE [aw22] T0 ⟨1, 0, [aw22e, aw22e]⟩ = 9 ∧ apP [aw22] T0 ⟨1, 0, [aw22e, aw22e]⟩ = 1 ∧ apT [aw22] T0 ⟨1, 0, [aw22e, aw22e]⟩ = T0 := by
  have h0 : ∀ i, i < 1 → evXat [aw22] T0 [aw22e, aw22e] i = 0 := fun i hi => by
    obtain rfl : i = 0 := by omega
    rw [evXat_at (by decide)]
    exact aw22_x0
  have h1 : evXat [aw22] T0 [aw22e, aw22e] 1 = 9 := by
    rw [evXat_at (by decide), stT_succ (by decide)]
    show evX [aw22] (evT [aw22] T0 aw22e) aw22e = 9
    rw [aw22_T1]
    exact aw22_x1
  obtain ⟨e1, e2, e3⟩ := ap_bad (ps := [aw22]) (T := T0) (t := ⟨1, 0, [aw22e, aw22e]⟩) (k := 1) (aw22_rt (n := 2) (by decide)) h0 (by decide) (by show evXat [aw22] T0 [aw22e, aw22e] 1 ≠ 0; rw [h1]; decide)
  exact ⟨e1.trans h1, e2, e3⟩
theorem aw22_one : apE [aw22] T0 ⟨1, 0, [aw22e]⟩ = 0 ∧ apP [aw22] T0 ⟨1, 0, [aw22e]⟩ = -1 ∧ apT [aw22] T0 ⟨1, 0, [aw22e]⟩ = T0.put 1 1 [aw22r] := by
  obtain ⟨e1, e2, e3⟩ := ap_good (ps := [aw22]) (T := T0) (t := ⟨1, 0, [aw22e]⟩) (aw22_rt (n := 1) (by decide)) (fun i hi => by
    obtain rfl : i = 0 := by simp at hi; omega
    show evXat [aw22] T0 [aw22e] 0 = 0
    rw [evXat_at (by decide)]
    exact aw22_x0)
  refine ⟨e1, e2, e3.trans ?_⟩
  show stT [aw22] T0 [aw22e] 1 = _
  rw [stT_succ (by decide)]
  exact aw22_T1
theorem aw22_small : aw22e.small := ⟨by decide, by decide, by decide⟩
theorem aw22_wk : aw22e.wk := ⟨(fun c hc => by cases hc), (fun c hc => by
  have h1 : c = ⟨2, ⟨2, 1, 0, 0, ⟨#[]⟩⟩⟩ := by simpa [aw22e, aw22r] using hc
  subst h1
  exact ⟨by decide, Nat.zero_le _⟩), by decide⟩

end Go.Proofs.YtkhlgoafeacdcaaGreat

/-
The laws' Own of a row, as a row that can be written.
-/
namespace Go.Proofs.YtkhlgoafeacdcaaGreat
open Go.RowKit

set_option maxRecDepth 100000 in set_option maxHeartbeats 1600000 in
theorem ownK_own (l : List K) (a : Option Addr) (cap : Nat) (w : World) (hl : Sl w (.slice a l.length cap) 6 (l.map K.rc)) (hlen : l.length ≤ 1000) :
    Calls Tryz.prog 24 #[.slice a l.length cap] w fun e w' => ∃ a' cap', e = .returned (.slice a' l.length cap') ∧ w'.ownsRow w.heap.size 124 5 (.slice a' l.length cap') l.length ((l.map K.pc).flatten) ∧ Ext w w' := by
  have HL := Hid.mk' hl
  clear hl
  obtain ⟨i0, hi, hz0, hz1, hz2⟩ := info_parts Tryz.infoCellP
  go_enter Tryz.func24, Tryz.ntmps24
  go_wp2
  go_loopw [3, 4] (fun v i wr => ∃ k : Nat, k ≤ l.length ∧ i = .int .i64 k ∧ Hid (wr.ownsRow w.heap.size 124 5 v k ((l.map K.pc).take k).flatten) ∧ Hid (Ext w wr)) (fun _ i _ => l.length - (intOf i).toNat)
  case atStart => exact ⟨0, Nat.zero_le _, rfl, World.ownsRow_nil _ _ _ _, Ext.refl _⟩
  case round =>
    obtain ⟨k, hk, rfl, hown, hE⟩ := hrel
    by_cases hlt : k < l.length
    · obtain ⟨b, o, rfl, hb, hx⟩ := HL.out.at_ (i := k) (by simpa using hlt)
      obtain ⟨f0, f1, f2, f3, f4, f5⟩ := K.rcAt hlt hx hb hE.out
      have hbw : b < wr.heap.size := Nat.lt_of_lt_of_le hb hE.out.size
      have HT := Hid.mk' (flat_snoc (f := K.pc) hlt)
      have HC := Hid.mk' (fun w => cown_any l[k].k l[k].v.ty l[k].v.n l[k].v.x l[k].v.y l[k].v.s w)
      simp only [Int.toNat_natCast] at HC
      obtain ⟨c, hc⟩ : ∃ c, c = l[k] := ⟨_, rfl⟩
      rw [← hc] at f0 f1 f2 f3 f4 f5 HT HC
      clear hc hx
      go_wp2_with (first
        | (go_at_call 52; refine (HC.out _).mono ?_; rintro e w1 ⟨rfl, hb1⟩; have HB1 := Hid.mk' hb1; have hz1' := hb1.size; clear hb1)
        | (at_builtin; refine wpList_append_own _ rfl _ _ 71 rfl w.heap.size 124 i0 _ 5 56 Tryz.underlying71 hi hz0 hz1 hz2 rfl (by decide) _ _ _ rfl ((owns_ext hown.out HB1.out).alloc _) ⟨_, 0, none⟩ 1 1 c.pc rfl rfl ?c1 ?c2 ?c3 ?c4 ?c5 ?_))
      case c1 => exact cells_new _ #[.int .u8 c.k, .int .u8 c.v.ty, .int .i64 c.v.n, .complex .f64 c.v.x c.v.y, .string c.v.s] _
      case c2 => intro u hu; simp [K.pc] at hu; rcases hu with rfl | rfl | rfl | rfl | rfl <;> rfl
      case c3 => unfold maxLen; omega
      case c4 => omega
      case c5 => have := (hE.out.trans HB1.out).size; simp; omega
      · intro v' w2 hown' hgrow _
        have HE2 := Hid.mk' (((hE.out.trans HB1.out).alloc _).grown ((owns_ext hown.out HB1.out).alloc _) hgrow)
        have HO2 := Hid.mk' hown'
        clear hown' hgrow
        go_wp2
        go_roundw
        case rel => exact ⟨k + 1, by omega, by go_num, Hid.mk' (by rw [HT.out]; exact HO2.out), HE2⟩
        case measure => simp [intOf]; omega
    · have hkk : k = l.length := by omega
      subst hkk
      rw [show l.length = (l.map K.pc).length by simp, List.take_length] at hown
      rw [List.length_map] at hown
      obtain ⟨a', c', rfl⟩ := owns_shape hown.out
      go_wp2
      go_ret
      exact ⟨a', c', rfl, hown.out, hE.out⟩

theorem ownK_at (l : List K) (a : Option Addr) (cap : Nat) (w : World) (hl : Sl w (.slice a l.length cap) 6 (l.map K.rc)) (hlen : l.length ≤ 1000) (h0 : l.length ≠ 0) :
    Calls Tryz.prog 24 #[.slice a l.length cap] w fun e w' => ∃ g cap', e = .returned (.slice (some ⟨g, 0, none⟩) l.length cap') ∧ l.length ≤ cap' ∧ w.heap.size ≤ g ∧ RowAt w' g l ∧ Ext w w' := by
  refine (ownK_own l a cap w hl hlen).mono ?_
  rintro e w' ⟨a', c', rfl, ho, hE⟩
  rcases ho.2 with ⟨-, h1⟩ | ⟨g, cap', cur, hv, hg, -, hn, -⟩
  · exact absurd h1 h0
  · simp only [Value.slice.injEq] at hv
    obtain ⟨rfl, -, rfl⟩ := hv
    exact ⟨g, _, rfl, hn, hg, RowAt.of_owns ho rfl, hE⟩

theorem RowAt.setV {W : World} {g : Nat} {ks : List K} (h : RowAt W g ks) {i : Nat} (hi : i < ks.length) (v : V) :
    RowAt ((((W.setCell ⟨g, i * 5 + 1, none⟩ (.int .u8 v.ty)).setCell ⟨g, i * 5 + 2, none⟩ (.int .i64 v.n)).setCell ⟨g, i * 5 + 3, none⟩ (.complex .f64 v.x v.y)).setCell ⟨g, i * 5 + 4, none⟩ (.string v.s)) g (ks.set i ⟨ks[i].k, v⟩) := by
  obtain ⟨cs, hb, hs, hx⟩ := h
  refine ⟨_, (((hb.set _ _).set _ _).set _ _).set _ _, by simpa using hs, fun q hq j hj => ?_⟩
  have hq2 : q < ks.length := by rwa [List.length_set] at hq
  simp only [Array.getElem?_setIfInBounds, Array.size_setIfInBounds]
  by_cases e : q = i
  · subst e
    rw [List.getElem_set_self]
    have h0 := hx q hq2 0 (by omega)
    have : j = 0 ∨ j = 1 ∨ j = 2 ∨ j = 3 ∨ j = 4 := by omega
    rcases this with rfl | rfl | rfl | rfl | rfl
    · rw [if_neg (by omega), if_neg (by omega), if_neg (by omega), if_neg (by omega), h0]; rfl
    all_goals
      simp [K.pc]
      (try omega)
  · rw [List.getElem_set_ne (Ne.symm e), ← hx q hq2 j hj]
    rw [if_neg (by omega), if_neg (by omega), if_neg (by omega), if_neg (by omega)]

end Go.Proofs.YtkhlgoafeacdcaaGreat

/-
The awake of the laws of tables.
-/
namespace Go.Proofs.YtkhlgoafeacdcaaGreat
open Go.RowKit

theorem aw22_el {W : World} {g c1 : Nat} (h : Sl W (.slice (some ⟨g, 0, none⟩) 1 c1) 5 (aw22r.map K.pc)) : EL.at 5 K.pc W ⟨aw22e, none, 0, some ⟨g, 0, none⟩, c1, none, 0⟩ := ⟨nilRowP _, h, ⟨none, 0, rfl, .inl rfl⟩⟩
theorem aw22_es1 {W : World} {g c1 : Nat} (h : Sl W (.slice (some ⟨g, 0, none⟩) 1 c1) 5 (aw22r.map K.pc)) : ES 5 K.pc (W.alloc (.cells #[.int .u8 4, .int .u32 1, .int .u32 1, .int .u8 0, .slice none 0 0, .slice (some ⟨g, 0, none⟩) 1 c1, .slice none 0 0, .int .u8 0] 103)) (.slice (some ⟨W.heap.size, 0, none⟩) 1 1) [(⟨aw22e, none, 0, some ⟨g, 0, none⟩, c1, none, 0⟩ : EL)] :=
  ⟨Sl.new W #[.int .u8 4, .int .u32 1, .int .u32 1, .int .u8 0, .slice none 0 0, .slice (some ⟨g, 0, none⟩) 1 c1, .slice none 0 0, .int .u8 0] 103 8 1 1 _ rfl (EL.len _) rfl, fun x hx => by
    obtain rfl : x = (⟨aw22e, none, 0, some ⟨g, 0, none⟩, c1, none, 0⟩ : EL) := by simpa using hx
    exact aw22_el (h.ext ((Ext.refl _).alloc _))⟩
theorem aw22_es2 {W : World} {g c1 : Nat} (h : Sl W (.slice (some ⟨g, 0, none⟩) 1 c1) 5 (aw22r.map K.pc)) : ES 5 K.pc (W.alloc (.cells #[.int .u8 4, .int .u32 1, .int .u32 1, .int .u8 0, .slice none 0 0, .slice (some ⟨g, 0, none⟩) 1 c1, .slice none 0 0, .int .u8 0, .int .u8 4, .int .u32 1, .int .u32 1, .int .u8 0, .slice none 0 0, .slice (some ⟨g, 0, none⟩) 1 c1, .slice none 0 0, .int .u8 0] 103)) (.slice (some ⟨W.heap.size, 0, none⟩) 2 2) [(⟨aw22e, none, 0, some ⟨g, 0, none⟩, c1, none, 0⟩ : EL), (⟨aw22e, none, 0, some ⟨g, 0, none⟩, c1, none, 0⟩ : EL)] :=
  ⟨Sl.new W #[.int .u8 4, .int .u32 1, .int .u32 1, .int .u8 0, .slice none 0 0, .slice (some ⟨g, 0, none⟩) 1 c1, .slice none 0 0, .int .u8 0, .int .u8 4, .int .u32 1, .int .u32 1, .int .u8 0, .slice none 0 0, .slice (some ⟨g, 0, none⟩) 1 c1, .slice none 0 0, .int .u8 0] 103 8 2 2 _ rfl (EL.len _) rfl, fun x hx => by
    obtain rfl : x = (⟨aw22e, none, 0, some ⟨g, 0, none⟩, c1, none, 0⟩ : EL) := by simpa using hx
    exact aw22_el (h.ext ((Ext.refl _).alloc _))⟩
theorem aw22_all {g c1 : Nat} {l : List EL} (hl : ∀ x ∈ l, x = (⟨aw22e, none, 0, some ⟨g, 0, none⟩, c1, none, 0⟩ : EL)) : (∀ e ∈ l, e.e.small) ∧ ∀ e ∈ l, e.e.wk := ⟨fun e he => by rw [hl e he]; exact aw22_small, fun e he => by rw [hl e he]; exact aw22_wk⟩
theorem aw22_len0 : lenT [aw22] T0 = 0 := rfl
theorem aw22_len1 : lenT [aw22] (T0.put 1 1 [aw22r]) = 1 := by decide
theorem Sl.bs {W W' : World} {N G : Nat} {ps : List RR} {T : Tb} {v : Value} {l : List K} (h : Sl W v 5 (l.map K.pc)) (hb : Bs W N G ps T) (hk : Kp (fun x => x = G) W W') : Sl W' v 5 (l.map K.pc) := by
  obtain ⟨cat, cv, m, hat, -, -⟩ := hb
  refine h.base hat hk (by omega) (fun xs hx => ?_)
  obtain ⟨q, -, rfl⟩ := List.mem_map.1 hx
  exact ⟨_, rfl, rfl⟩
theorem T0_ok (n : Nat) : TbOk T0 n := ⟨fun _ _ => Nat.zero_le _, fun _ _ x hx => by cases hx⟩

set_option maxRecDepth 100000 in set_option maxHeartbeats 8000000 in
theorem awake22_any (w : World) : Calls Tryz.prog 13 #[] w fun e w' => e = .returned (.bool true) ∧ Ext w w' := by
  have HOF := Hid.mk' (cof_any [⟨aw22, some ⟨w.heap.size, 0, none⟩, 1⟩] (some ⟨(((w.alloc (.cells #[.string ⟨#[97]⟩, .int .u8 2, .bool true] 115)).alloc (.cells #[.int .u32 1, .int .u32 1, .string ⟨#[116]⟩, .int .u8 1, .slice (some ⟨w.heap.size, 0, none⟩) 1 1] 99))).heap.size, 0, none⟩) 1 ((((w.alloc (.cells #[.string ⟨#[97]⟩, .int .u8 2, .bool true] 115)).alloc (.cells #[.int .u32 1, .int .u32 1, .string ⟨#[116]⟩, .int .u8 1, .slice (some ⟨w.heap.size, 0, none⟩) 1 1] 99)).alloc (.cells #[.int .u32 1, .int .u32 1, .string ⟨#[116]⟩, .int .u8 1, .slice (some ⟨w.heap.size, 0, none⟩) 1 1] 99)))
    ⟨Sl.new (((w.alloc (.cells #[.string ⟨#[97]⟩, .int .u8 2, .bool true] 115)).alloc (.cells #[.int .u32 1, .int .u32 1, .string ⟨#[116]⟩, .int .u8 1, .slice (some ⟨w.heap.size, 0, none⟩) 1 1] 99))) #[.int .u32 1, .int .u32 1, .string ⟨#[116]⟩, .int .u8 1, .slice (some ⟨w.heap.size, 0, none⟩) 1 1] 99 5 1 1 _ rfl (RR.len _) rfl, fun p hp => by simp at hp; subst hp; exact (((Sl.new w #[.string ⟨#[97]⟩, .int .u8 2, .bool true] 115 3 1 1 [[.string ⟨#[97]⟩, .int .u8 2, .bool true]] rfl (by intro xs hxs; simp at hxs; subst hxs; rfl) rfl)).ext (((Ext.refl _).alloc _).alloc _))⟩
    (fun p hp => by simp at hp; subst hp; exact Nat.le_refl _) (fun p hp => by simp at hp; subst hp; exact aw22_wb) (by simp))
  unfold COfPost at HOF
  simp only [World.size_alloc, List.map_cons, List.map_nil, List.length_cons, List.length_nil, Nat.zero_add, aw22_ofE, aw22_ofPl, aw22_up] at HOF
  go_enter Tryz.func13, Tryz.ntmps13
  go_upto_region 3 with (go_at_call 31; refine HOF.out.mono ?_; rintro e w1 ⟨pv, rfl, h1, -, hb1⟩; obtain ⟨rfl, c, qs, hc, hq⟩ := h1 (by first | exact rfl | exact trivial); have HC := Hid.mk' hc; have HQ := Hid.mk' hq; have HX1 := Hid.mk' (((Blk.new' (w := (w.alloc (.cells #[.string ⟨#[97]⟩, .int .u8 2, .bool true] 115))) (b := w.heap.size + 1) #[.int .u32 1, .int .u32 1, .string ⟨#[116]⟩, .int .u8 1, .slice (some ⟨w.heap.size, 0, none⟩) 1 1] 99 (by simp)).alloc (.cells #[.int .u32 1, .int .u32 1, .string ⟨#[116]⟩, .int .u8 1, .slice (some ⟨w.heap.size, 0, none⟩) 1 1] 99)).ext hb1); have HB1 := Hid.mk' (show Ext w w1 from ((((Ext.refl w).alloc _).alloc _).alloc _).trans hb1); clear h1 hc hq hb1)
  have HNW := Hid.mk' (fun W (h : Ext w1 W) => tnew_any _ _ c qs W (HC.out.ext h) (fun p hp => by
    have h1 : p.r ∈ qs.map RR.r := List.mem_map_of_mem hp
    rw [HQ.out] at h1
    have h2 : p.r = aw22 := by simpa using h1
    rw [h2]; exact ⟨⟨by decide, by decide⟩, ⟨by decide, by decide⟩⟩))
  clear HOF
  go_upto_region 6 with (go_at_call 9; refine (HNW.out _ (Ext.refl _)).mono ?_; rintro e w2 ⟨G, qs2, rfl, hG, hbs, hq2, hb2⟩; have HBS := Hid.mk' hbs; have HQ2 := Hid.mk' (hq2.trans HQ.out); have HX2 := Hid.mk' (HX1.out.ext hb2); have HB2 := Hid.mk' (HB1.out.trans hb2); have HGN := Hid.mk' hG; clear hbs hq2 hb2 hG)
  have HOW := Hid.mk' (ownK_at [⟨2, V.zero⟩] (some ⟨w2.heap.size, 0, none⟩) 1 (w2.alloc (.cells #[.int .u8 2, .int .u8 0, .int .i64 0, .int .u64 0, .int .u64 0, .string ⟨#[]⟩] 119)) (Sl.new w2 #[.int .u8 2, .int .u8 0, .int .i64 0, .int .u64 0, .int .u64 0, .string ⟨#[]⟩] 119 6 1 1 _ rfl (by intro xs hxs; simp at hxs; subst hxs; rfl) rfl) (by decide) (by decide))
  simp only [List.length_cons, List.length_nil, Nat.zero_add] at HOW
  have HB1z := Hid.mk' HB1.out.size
  clear HNW HC HX1 HB1
  go_upto_region 7 with (go_at_call 24; refine HOW.out.mono ?_; rintro e w3 ⟨g, c1, rfl, hc1, hg, hr, hb3⟩; have HR := Hid.mk' hr; have HGL := Hid.mk' hg; have HE3 := Hid.mk' (show Ext w2 w3 from ((Ext.refl w2).alloc _).trans hb3); have HC1 := Hid.mk' hc1; clear hb3 hg hc1)
  have hgl := HR.out.lt
  have hgf := HR.out.frozen
  obtain ⟨q0, q1, q2, q3, q4⟩ := HR.out.cells (i := 0) (by decide)
  simp [V.zero] at q0 q1 q2 q3 q4
  have hgz : w2.heap.size ≤ g := by have := HGL.out; simp at this; omega
  clear HOW hr
  go_upto_region 8 with (fail)
  have HR4 := Hid.mk' (RowAt.setV HR.out (i := 0) (by decide) ⟨2, 1, 0, 0, ⟨#[]⟩⟩)
  have HE4 := Hid.mk' ((((HE3.out.setCell (p := ⟨g, 1, none⟩) hgz (.int .u8 2)).setCell (p := ⟨g, 2, none⟩) hgz (.int .i64 1)).setCell (p := ⟨g, 3, none⟩) hgz (.complex .f64 0 0)).setCell (p := ⟨g, 4, none⟩) hgz (.string ⟨#[]⟩))
  obtain ⟨w4, hw4⟩ : ∃ w4, w4 = (((w3.setCell ⟨g, 1, none⟩ (.int .u8 2)).setCell ⟨g, 2, none⟩ (.int .i64 1)).setCell ⟨g, 3, none⟩ (.complex .f64 0 0)).setCell ⟨g, 4, none⟩ (.string ⟨#[]⟩) := ⟨_, rfl⟩
  change Hid (RowAt ((((w3.setCell ⟨g, 1, none⟩ (.int .u8 2)).setCell ⟨g, 2, none⟩ (.int .i64 1)).setCell ⟨g, 3, none⟩ (.complex .f64 0 0)).setCell ⟨g, 4, none⟩ (.string ⟨#[]⟩)) g aw22r) at HR4
  rw [← hw4] at HR4 HE4 ⊢
  clear hw4 hgl hgf q0 q1 q2 q3 q4 hgz HR HE3
  have gx := (HX2.out.ext HE4.out).cell
  have zx := (HX2.out.ext HE4.out).lt
  have HSL := Hid.mk' (HR4.out.sl c1)
  have HBS4 := Hid.mk' (HBS.out.ext HE4.out)
  clear HR4 HBS
  go_upto_region 9 with (fail)
  have HB32 : Hid (∀ p ∈ qs2, B32 p.r.oid ∧ B32 p.r.ver) := Hid.mk' (fun p hp => by
    have h1 : p.r ∈ qs2.map RR.r := List.mem_map_of_mem hp
    rw [HQ2.out] at h1
    have h2 : p.r = aw22 := by simpa using h1
    rw [h2]; exact ⟨⟨by decide, by decide⟩, ⟨by decide, by decide⟩⟩)
  have HAP2 := Hid.mk' (fun W (h : Ext w4 W) => apply_any ⟨1, 0, [(⟨aw22e, none, 0, some ⟨g, 0, none⟩, c1, none, 0⟩ : EL), (⟨aw22e, none, 0, some ⟨g, 0, none⟩, c1, none, 0⟩ : EL)], some ⟨W.heap.size, 0, none⟩, 2⟩ _ G 0 qs2 T0 (W.alloc (.cells #[.int .u8 4, .int .u32 1, .int .u32 1, .int .u8 0, .slice none 0 0, .slice (some ⟨g, 0, none⟩) 1 c1, .slice none 0 0, .int .u8 0, .int .u8 4, .int .u32 1, .int .u32 1, .int .u8 0, .slice none 0 0, .slice (some ⟨g, 0, none⟩) 1 c1, .slice none 0 0, .int .u8 0] 103)) (HBS4.out.ext (h.alloc _)) HB32.out (T0_ok 0) (aw22_es2 (HSL.out.ext h)) (by show 0 + 2 ≤ 1000; omega) (aw22_all (g := g) (c1 := c1) (by simp)).1 (aw22_all (g := g) (c1 := c1) (by simp)).2)
  unfold ApPost TL.t TL.agg at HAP2
  simp only [List.map_cons, List.map_nil, List.length_cons, List.length_nil, Nat.zero_add, Nat.reduceAdd, HQ2.out, aw22_two.1, aw22_two.2.1, aw22_two.2.2] at HAP2
  have HE := Hid.mk' (Blk.new' (w := w4) (b := w4.heap.size) #[.int .u8 4, .int .u32 1, .int .u32 1, .int .u8 0, .slice none 0 0, .slice (some ⟨g, 0, none⟩) 1 c1, .slice none 0 0, .int .u8 0] 103 rfl)
  clear gx zx
  go_upto_region 11 with (fail)
  have HE5 := Hid.mk' (show Ext w4 ((w4.alloc (.cells #[.int .u8 4, .int .u32 1, .int .u32 1, .int .u8 0, .slice none 0 0, .slice (some ⟨g, 0, none⟩) 1 c1, .slice none 0 0, .int .u8 0] 103))) by exact eX)
  obtain ⟨w5, hw5⟩ : ∃ w5, w5 = (w4.alloc (.cells #[.int .u8 4, .int .u32 1, .int .u32 1, .int .u8 0, .slice none 0 0, .slice (some ⟨g, 0, none⟩) 1 c1, .slice none 0 0, .int .u8 0] 103)) := ⟨_, rfl⟩
  rw [← hw5] at HE HE5 ⊢
  clear hw5
  obtain ⟨E0, hE0⟩ : ∃ E0, E0 = w4.heap.size := ⟨_, rfl⟩
  have HE0 := Hid.mk' (show E0 ≠ G from by have := HBS4.out.lt; omega)
  rw [← hE0] at HE ⊢
  clear hE0
  have gE := HE.out.cell
  have zE := HE.out.lt
  have HAP2 := Hid.mk' (HAP2.out _ HE5.out)
  go_upto_region 12 with (go_at_call 12; refine HAP2.out.mono ?_; rintro e w6 ⟨rfl, hbs6, hk6⟩; have HBS6 := Hid.mk' hbs6; have HK6 := Hid.mk' hk6; clear hbs6 hk6)
  have HX6 := Hid.mk' ((HE.out.alloc (.cells #[.int .u8 4, .int .u32 1, .int .u32 1, .int .u8 0, .slice none 0 0, .slice (some ⟨g, 0, none⟩) 1 c1, .slice none 0 0, .int .u8 0, .int .u8 4, .int .u32 1, .int .u32 1, .int .u8 0, .slice none 0 0, .slice (some ⟨g, 0, none⟩) 1 c1, .slice none 0 0, .int .u8 0] 103)).kp HK6.out HE0.out)
  have HSL6 := Hid.mk' ((HSL.out.ext (HE5.out.alloc (.cells #[.int .u8 4, .int .u32 1, .int .u32 1, .int .u8 0, .slice none 0 0, .slice (some ⟨g, 0, none⟩) 1 c1, .slice none 0 0, .int .u8 0, .int .u8 4, .int .u32 1, .int .u32 1, .int .u8 0, .slice none 0 0, .slice (some ⟨g, 0, none⟩) 1 c1, .slice none 0 0, .int .u8 0] 103))).bs (HBS4.out.ext (HE5.out.alloc _)) HK6.out)
  have HEW6 := Hid.mk' (Kp.ext (show Ext w (w5.alloc (.cells #[.int .u8 4, .int .u32 1, .int .u32 1, .int .u8 0, .slice none 0 0, .slice (some ⟨g, 0, none⟩) 1 c1, .slice none 0 0, .int .u8 0, .int .u8 4, .int .u32 1, .int .u32 1, .int .u8 0, .slice none 0 0, .slice (some ⟨g, 0, none⟩) 1 c1, .slice none 0 0, .int .u8 0] 103)) from ((HB2.out.trans HE4.out).trans HE5.out).alloc _) (fun x hx _ => by
    have h1 : x = G := hx
    have h2 := HB1z.out
    have := HGN.out
    omega) HK6.out)
  have HLN := Hid.mk' (blen_any _ G qs2 T0 w6 HBS6.out HB32.out (by rw [HQ2.out, aw22_len0]; omega))
  rw [HQ2.out, aw22_len0] at HLN
  clear HAP2 HSL HBS4 HK6 HE HX2 HB2 HE4 HE5 gE zE
  go_upto_region 13 with (go_at_call 11; refine HLN.out.mono ?_; rintro e w7 ⟨rfl, hb7⟩; have HB7 := Hid.mk' hb7; clear hb7)
  have HX7 := Hid.mk' (HX6.out.ext HB7.out)
  have gE := HX7.out.cell
  have zE := HX7.out.lt
  have HAP1 := Hid.mk' (apply_any ⟨1, 0, [(⟨aw22e, none, 0, some ⟨g, 0, none⟩, c1, none, 0⟩ : EL)], some ⟨w7.heap.size, 0, none⟩, 1⟩ _ G 0 qs2 T0 (w7.alloc (.cells #[.int .u8 4, .int .u32 1, .int .u32 1, .int .u8 0, .slice none 0 0, .slice (some ⟨g, 0, none⟩) 1 c1, .slice none 0 0, .int .u8 0] 103)) (HBS6.out.ext (HB7.out.alloc _)) HB32.out (T0_ok 0) (aw22_es1 (HSL6.out.ext HB7.out)) (by show 0 + 1 ≤ 1000; omega) (aw22_all (g := g) (c1 := c1) (by simp)).1 (aw22_all (g := g) (c1 := c1) (by simp)).2)
  unfold ApPost TL.t TL.agg at HAP1
  simp only [List.map_cons, List.map_nil, List.length_cons, List.length_nil, Nat.zero_add, HQ2.out, aw22_one.1, aw22_one.2.1, aw22_one.2.2] at HAP1
  clear HLN HX6 HSL6 HBS6
  go_upto_region 14 with (go_at_call 12; refine HAP1.out.mono ?_; rintro e w8 ⟨rfl, hbs8, hk8⟩; have HBS8 := Hid.mk' hbs8; have HK8 := Hid.mk' hk8; clear hbs8 hk8)
  have HEW8 := Hid.mk' (Kp.ext (show Ext w (w7.alloc (.cells #[.int .u8 4, .int .u32 1, .int .u32 1, .int .u8 0, .slice none 0 0, .slice (some ⟨g, 0, none⟩) 1 c1, .slice none 0 0, .int .u8 0] 103)) from (HEW6.out.trans HB7.out).alloc _) (fun x hx _ => by
    have h1 : x = G := hx
    have h2 := HB1z.out
    have := HGN.out
    omega) HK8.out)
  have HLN := Hid.mk' (blen_any _ G qs2 _ w8 HBS8.out HB32.out (by rw [HQ2.out, aw22_len1]; omega))
  rw [HQ2.out, aw22_len1] at HLN
  clear HAP1 HK8 HX7 HBS8 gE zE
  go_wp2_with (go_at_call 11; refine HLN.out.mono ?_; rintro e w9 ⟨rfl, hb9⟩; have HB9 := Hid.mk' hb9; clear hb9)
  go_ret
  exact ⟨rfl, HEW8.out.trans HB9.out⟩

end Go.Proofs.YtkhlgoafeacdcaaGreat

/-
Transactions of the arguments that are not great, and their copies: they are small.
-/
namespace Go.Proofs.YtkhlgoafeacdcaaGreat
open Go.RowKit

theorem Lit.ok {ps : List RR} {ts : List TL} (h : Lit ps ts) : ts.length ≤ 1000 ∧ (∀ t ∈ ts, t.es.length ≤ 1000) ∧ (∀ t ∈ ts, ∀ e ∈ t.es, e.e.small) ∧ ∀ t ∈ ts, ∀ e ∈ t.es, e.e.rs.length ≤ 1000 := by
  refine ⟨by have := h.t; omega, fun t ht => ?_, fun t ht e he => ?_, fun t ht e he => by have := (h.e t ht e he).r; omega⟩
  · obtain ⟨i, hi, rfl⟩ := List.getElem_of_mem ht
    have h1 := manyT_succ hi
    have h2 := manyT_le ts (i + 1)
    have h3 := h.es
    omega
  · have h1 := h.e t ht e he
    exact ⟨by have := h1.b; omega, by have := h1.a; omega, by have := h1.r; omega⟩

theorem OwnT.sm {W : World} {N : Nat} {v : Value} {ts qs : List TL} (ho : OwnT W N (ts.map TL.t) v qs) (h1 : ∀ t ∈ ts, t.es.length ≤ 1000) (h2 : ∀ t ∈ ts, ∀ e ∈ t.es, e.e.small) : (∀ t ∈ qs, t.es.length ≤ 1000) ∧ ∀ t ∈ qs, ∀ e ∈ t.es, e.e.small := by
  have h3 : ∀ t ∈ qs, ∃ t2 ∈ ts, t2.es.map EL.e = t.es.map EL.e := fun t ht => by
    have h4 : t.t ∈ ts.map TL.t := by rw [← ho.t]; exact List.mem_map_of_mem ht
    obtain ⟨t2, h5, h6⟩ := List.mem_map.1 h4
    exact ⟨t2, h5, congrArg Tx.es h6⟩
  refine ⟨fun t ht => ?_, fun t ht e he => ?_⟩
  · obtain ⟨t2, h5, h6⟩ := h3 t ht
    have := congrArg List.length h6
    rw [List.length_map, List.length_map] at this
    have := h1 t2 h5
    omega
  · obtain ⟨t2, h5, h6⟩ := h3 t ht
    have h7 : e.e ∈ t2.es.map EL.e := by rw [h6]; exact List.mem_map_of_mem he
    obtain ⟨e2, h8, h9⟩ := List.mem_map.1 h7
    rw [← h9]; exact h2 t2 h5 e2 h8
theorem OwnT.wk {W : World} {N : Nat} {v : Value} {ts qs : List TL} (ho : OwnT W N (ts.map TL.t) v qs) (h2 : ∀ t ∈ ts, ∀ e ∈ t.es, e.e.wk) : ∀ t ∈ qs, ∀ e ∈ t.es, e.e.wk := by
  intro t ht e he
  have h4 : t.t ∈ ts.map TL.t := by rw [← ho.t]; exact List.mem_map_of_mem ht
  obtain ⟨t2, h5, h6⟩ := List.mem_map.1 h4
  have h7 : e.e ∈ t2.es.map EL.e := by rw [show t2.es.map EL.e = t.es.map EL.e from congrArg Tx.es h6]; exact List.mem_map_of_mem he
  obtain ⟨e2, h8, h9⟩ := List.mem_map.1 h7
  rw [← h9]; exact h2 t2 h5 e2 h8

end Go.Proofs.YtkhlgoafeacdcaaGreat

/-
The walk of TableOne.
-/
namespace Go.Proofs.YtkhlgoafeacdcaaGreat
open Go.RowKit Go.Maps

theorem ofUp_b32 {ps qs : List RR} {n : Nat} (h : qs.map RR.r = ofUp (ps.map RR.r) n) (hB : ∀ p ∈ ps, B32 p.r.oid ∧ B32 p.r.ver) : ∀ p ∈ qs, B32 p.r.oid ∧ B32 p.r.ver := fun p hp => by
  have h1 : p.r ∈ qs.map RR.r := List.mem_map_of_mem hp
  rw [h, ← upP_r] at h1
  obtain ⟨q, h2, h3⟩ := List.mem_map.1 h1
  rw [← h3]
  exact hB q (upP_mem h2)
theorem b32_of {ps qs : List RR} (h : qs.map RR.r = ps.map RR.r) (hB : ∀ p ∈ ps, B32 p.r.oid ∧ B32 p.r.ver) : ∀ p ∈ qs, B32 p.r.oid ∧ B32 p.r.ver := fun p hp => by
  have h1 : p.r ∈ qs.map RR.r := List.mem_map_of_mem hp
  rw [h] at h1
  obtain ⟨q, h2, h3⟩ := List.mem_map.1 h1
  rw [← h3]
  exact hB q h2

set_option maxRecDepth 100000 in set_option maxHeartbeats 8000000 in
theorem tableone_law (ps : List RR) (a : Option Addr) (cap : Nat) (ts : List TL) (ta : Option Addr) (tc : Nat) (w : World) (hl : RL w (.slice a ps.length cap) ps) (hb : ∀ p ∈ ps, p.r.wb) (hlen : ps.length ≤ 9223372036854775807) (hB : ∀ p ∈ ps, B32 p.r.oid ∧ B32 p.r.ver) (ht : TS 6 K.rc w (.slice ta ts.length tc) ts) (hnt : ts.length ≤ 9223372036854775807) (hz : ∀ p ∈ ts, p.sz) :
    Calls Tryz.prog 3 #[.slice a ps.length cap, .slice ta ts.length tc] w fun e w' => e = .returned (.bool true) ∧ Ext w w' := by
  have HB := Hid.mk' hb
  have HL := Hid.mk' hl
  have HT := Hid.mk' ht
  have HZ := Hid.mk' hz
  have HB32 := Hid.mk' hB
  have HGR := Hid.mk' (fun W (h : Ext w W) => greatT_any ps ts a ta cap tc W (hl.ext h) (ht.ext h) hlen hnt hb hz)
  have HIN := Hid.mk' (fun W (h : Ext w W) => in16_any ps a cap W (hl.ext h) hb hlen)
  clear hl hb ht hz hlen hnt hB
  by_cases hA : ofE (ps.map RR.r) = 0
  case neg =>
    rw [decide_eq_false hA] at HIN
    clear hA
    go_enter Tryz.func3, Tryz.ntmps3
    go_wp2_with (first
      | (go_at_call 6; refine (HGR.out _ (Ext.refl _)).mono ?_; rintro e w2 ⟨g, rfl, -, hb2⟩; have HB2 := Hid.mk' hb2; clear hb2; cases g)
      | (go_at_call 7; refine (HIN.out _ HB2.out).mono ?_; rintro e w3 ⟨rfl, hb3⟩; have HB3 := Hid.mk' (HB2.out.trans hb3); clear hb3))
    all_goals
      go_ret
      first | exact ⟨rfl, HB3.out⟩ | exact ⟨rfl, HB2.out⟩
  rw [decide_eq_true hA] at HIN
  have HA := Hid.mk' hA
  clear hA
  go_enter Tryz.func3, Tryz.ntmps3
  go_upto_region 3 with (first
      | (go_at_call 6; refine (HGR.out _ (Ext.refl _)).mono ?_; rintro e w2 ⟨g, rfl, hg, hb2⟩; have HG := Hid.mk' hg; have HB2 := Hid.mk' hb2; clear hb2 hg; cases g)
      | (go_at_call 7; refine (HIN.out _ HB2.out).mono ?_; rintro e w3 ⟨rfl, hb3⟩; have HB3 := Hid.mk' (HB2.out.trans hb3); clear hb3))
  all_goals try (go_ret; first | exact ⟨rfl, HB3.out⟩ | exact ⟨rfl, HB2.out⟩)
  have HLT := Hid.mk' (HG.out (by first | exact rfl | exact trivial))
  have hn70 : ps.length ≤ 1000 := by have := HLT.out.n; omega
  have HOW := Hid.mk' (fun W (h : Ext w W) => own16_any ps a cap W (HL.out.ext h) HB.out hn70 HA.out)
  unfold Own16Post at HOW
  clear HG HGR HIN hn70
  go_upto_region 6 with (go_at_call 8; refine (HOW.out _ HB3.out).mono ?_; rintro e w4 ⟨G0, c0, q0, rfl, hz0, hc0, hq0, hb4⟩; have HC0 := Hid.mk' hc0; have HQ0 := Hid.mk' hq0; have HB4 := Hid.mk' (HB3.out.trans hb4); clear hz0 hc0 hq0 hb4)
  have HBQ := Hid.mk' (ofUp_b32 HQ0.out HB32.out)
  have HN1 := Hid.mk' (fun W (h : Ext w4 W) => tnew_any _ _ c0 q0 W (HC0.out.ext h) HBQ.out)
  have HN2 := Hid.mk' HN1.out
  clear HOW HB3 HB2 HA HL HB
  go_upto_region 9 with (first
    | (go_at_call 9; refine (HN1.out _ (Ext.refl _)).mono ?_; rintro e w4b ⟨Gx, qx, rfl, hgx, hbx, hqx, hb5⟩; have HX := Hid.mk' hbx; have HQX := Hid.mk' hqx; have HB4b := Hid.mk' hb5; have HGX := Hid.mk' hgx; clear hgx hbx hqx hb5 HN1)
    | (go_at_call 9; refine (HN2.out _ HB4b.out).mono ?_; rintro e w5 ⟨Gy, qy, rfl, hgy, hby, hqy, hb5⟩; have HY := Hid.mk' hby; have HQY := Hid.mk' hqy; have HX5 := Hid.mk' (HX.out.ext hb5); have HB5 := Hid.mk' ((HB4.out.trans HB4b.out).trans hb5); have HGY := Hid.mk' hgy; clear hgy hby hqy hb5 HN2))
  have HNE := Hid.mk' (show Gy ≠ Gx by have := HX.out.lt; have := HGY.out; omega)
  have HWX := Hid.mk' (show Gx < w5.heap.size by have := HX5.out.lt; omega)
  have HW0 := Hid.mk' (show w.heap.size ≤ Gx by have := HGX.out; have := HB4.out.size; omega)
  have HGYw := Hid.mk' (show w.heap.size ≤ Gy by have := HGY.out; have := HB4b.out.size; have := HB4.out.size; omega)
  have HBX := Hid.mk' (b32_of HQX.out HBQ.out)
  have HBY := Hid.mk' (b32_of HQY.out HBQ.out)
  clear HC0 HX HB4 HB4b HGX HGY HBQ
  have HLA := Hid.mk' (HLT.out.ok)
  have HTX := Hid.mk' (fun W (h : Ext w W) => txs_any ts ta tc W (HT.out.ext h) HLA.out.1 HLA.out.2.1 HLA.out.2.2.1)
  go_upto_region 10 with (fail)
  have HB8 := Hid.mk' (Blk.new' (w := w5) (b := w5.heap.size) #[.int .u32 1, .int .u64 0, .slice none 0 0] 34 rfl)
  have HE8 := Hid.mk' (show Ext w5 ((w5.alloc (.cells #[.int .u32 1, .int .u64 0, .slice none 0 0] 34))) by exact eX)
  have HS8 := Hid.mk' (show ((w5.alloc (.cells #[.int .u32 1, .int .u64 0, .slice none 0 0] 34))).heap.size = w5.heap.size + 1 from World.size_alloc _ _)
  obtain ⟨w6, hw6⟩ : ∃ w6, w6 = (w5.alloc (.cells #[.int .u32 1, .int .u64 0, .slice none 0 0] 34)) := ⟨_, rfl⟩
  rw [← hw6] at HB8 HE8 HS8 ⊢
  clear hw6
  obtain ⟨X8, hX8⟩ : ∃ X, X = w5.heap.size := ⟨_, rfl⟩
  rw [← hX8] at HB8 HS8 HWX ⊢
  have HX8 := Hid.mk' hX8
  clear hX8
  go_upto_region 11 with (go_at_call 10; refine (HTX.out _ (HB5.out.trans HE8.out)).mono ?_; rintro e w7 ⟨a5, c5, qs, rfl, ho5, hb5⟩; have HO5 := Hid.mk' ho5; have HE7 := Hid.mk' hb5; clear ho5 hb5)
  obtain ⟨i0, hi, hz0, hz1, hz2⟩ := info_parts Tryz.infoEvP
  have HWK : Hid (∀ t ∈ ts, ∀ e ∈ t.es, e.e.wk) := Hid.mk' (fun t ht e he => by have h := (HZ.out t ht).e e he; exact ⟨h.sb, h.sa, h.old.1⟩)
  have HSM5 := Hid.mk' (HO5.out.sm HLA.out.2.1 HLA.out.2.2.1)
  have HWK5 := Hid.mk' (HO5.out.wk HWK.out)
  have hql : qs.length = ts.length := by have h := HO5.out.len; rwa [List.length_map] at h
  have HQL := Hid.mk' hql
  have HQT := Hid.mk' HO5.out.t
  have hlt60 : ts.length ≤ 60 := HLT.out.t
  have HM6 := Hid.mk' (fun k => Nat.le_trans (manyT_le ts k) HLT.out.es)
  have HZZ := Hid.mk' (show X8 < w6.heap.size ∧ Gx < w6.heap.size ∧ w6.heap.size ≤ w7.heap.size from ⟨by have := HS8.out; omega, by have := HS8.out; have := HWX.out; omega, HE7.out.size⟩)
  have HTQ := Hid.mk' (fun W (h : Kp (fun x => x = Gx ∨ x = X8) w7 W) => (HO5.out.low h (fun x hx => .inl (by have := HZZ.out; rcases hx with hx | hx <;> omega)) : OwnT W w6.heap.size (ts.map TL.t) (.slice a5 ts.length c5) qs))
  have HON := Hid.mk' (fun t (ht : t ∈ qs) e (he : e ∈ t.es) => (((HO5.out.ne t ht).e e he).and (((HO5.out.sl t ht).lt).e e he)).mono (T := fun b => w6.heap.size ≤ b ∧ b < w7.heap.size) (fun b hb => ⟨hb.1.1, hb.2⟩))
  have HEW7 := Hid.mk' ((HB5.out.trans HE8.out).trans HE7.out)
  obtain ⟨L, hL⟩ : ∃ L, L = q0.map RR.r := ⟨_, rfl⟩
  rw [← hL] at HQX HQY
  have HLL := Hid.mk' (show L.length ≤ 64 by rw [← HQX.out, List.length_map]; obtain ⟨_, _, _, _, h, _⟩ := HX5.out; exact h.n64)
  have HM0 : Hid (OneM w7 w7 _ Gx _ Gy X8 w6.heap.size qx qy T0 [] (.slice none 0 0)) := Hid.mk' ⟨HX5.out.ext (HE8.out.trans HE7.out), HY.out.ext (HE8.out.trans HE7.out), HB8.out.ext HE7.out, World.ownsRow_nil _ _ _ _, (fun b hb => by cases hb), (fun e h => by cases h), (fun e h => by cases h), Kp.refl⟩
  have HNE8 := Hid.mk' (show X8 ≠ Gx by have := HWX.out; omega)
  have HLN := Hid.mk' (fun T n W (hb : Bs W w4.heap.size Gx qx T) (hT : TbOk T n) (hn : n ≤ 600) => (show Calls Tryz.prog 11 #[.pointer (some ⟨Gx, 0, none⟩)] W (fun e w' => e = .returned (.int .i64 (lenT L T : Nat)) ∧ Ext W w') from by
    have h1 := blen_any _ Gx qx T W hb HBX.out (by
      have h2 := lenT_le (rs := qx.map RR.r) hT
      have h3 : (qx.map RR.r).length ≤ 64 := by rw [HQX.out]; exact HLL.out
      have h4 : (qx.map RR.r).length * n ≤ 64 * 600 := Nat.mul_le_mul h3 hn
      omega)
    rw [HQX.out] at h1
    exact h1))
  clear hL HX5 HY HB8 HE8 HE7 HB5 HTX HO5 HWK HQ0 hql HLA HLT HZ HT
  go_wp2
  go_loopg [10] ts.length (fun z i wr => ∃ (k : Nat) (T : Tb) (al : List EL) (va : Option Addr) (vc : Nat), z + k = ts.length ∧ i = .int .i64 k ∧ Hid (OneM w7 wr w4.heap.size Gx w4b.heap.size Gy X8 w6.heap.size qx qy T al (.slice va al.length vc)) ∧ Hid (OneI L T (al.map EL.e)) ∧ Hid (TbOk T (manyT ts k)) ∧ Hid (al.length ≤ manyT ts k) ∧ Hid (∀ e ∈ al, e.e.small ∧ e.e.wk))
  case atStart => exact ⟨0, T0, [], none, 0, by omega, rfl, HM0, Hid.mk' (OneI.nil L), Hid.mk' (T0_ok _), Hid.mk' (Nat.zero_le _), Hid.mk' (fun e h => by cases h)⟩
  case round =>
    obtain ⟨k, T, al, va, vc, hzk, rfl, hM, hI, hT, hN, hS⟩ := hrel
    by_cases hlt : k < ts.length
    · have hlq : k < qs.length := by have := HQL.out; omega
      obtain ⟨b, o, rfl, hb1, hx1⟩ := (HTQ.out wr hM.out.kp).ts.row.at_ (i := k) (by simpa using hlq)
      have HF := Hid.mk' (fun W (h : Kp (fun x => x = Gx ∨ x = X8) w7 W) => (show _ ∧ b < W.heap.size from by
        obtain ⟨b', o', e', hb', hx'⟩ := (HTQ.out W h).ts.row.at_ (i := k) (by simpa using hlq)
        cases e'
        exact ⟨TL.at_ hlq hx' hb' (Ext.refl W), hb'⟩))
      have HXA := Hid.mk' (fun W (h : Kp (fun x => x = Gx ∨ x = X8) w7 W) => (HTQ.out W h).ts.sl _ (List.getElem_mem hlq))
      have HXO := Hid.mk' (HON.out _ (List.getElem_mem hlq))
      have HXS := Hid.mk' (HSM5.out.2 _ (List.getElem_mem hlq))
      have HXW := Hid.mk' (HWK5.out _ (List.getElem_mem hlq))
      have HXT := Hid.mk' (show manyT ts (k + 1) = manyT ts k + qs[k].es.length from by
        rw [manyT_succ hlt]
        have h1 : qs[k].t = ts[k].t := by
          have h3 := congrArg (fun z => z[k]?) HQT.out
          simpa [hlq, hlt] using h3
        have h2 := congrArg (fun t : Tx => t.es.length) h1
        simp only [TL.t, List.length_map] at h2
        omega)
      obtain ⟨x, hx⟩ : ∃ x, x = qs[k] := ⟨_, rfl⟩
      rw [← hx] at HF HXA HXO HXS HXW HXT
      clear hx hx1 hb1 hlq
      obtain ⟨xid, st, es, xa, xc⟩ := x
      unfold TL.at at HXA
      simp only at HF HXA HXO HXS HXW HXT
      have HN6 := Hid.mk' (HM6.out k)
      have HN7 := Hid.mk' (HM6.out (k + 1))
      have HLT := Hid.mk' hlt
      have i1 : (k : Int) < (ts.length : Int) := by omega
      have hd1 : decide (ts.length ≤ k) = false := decide_eq_false (by omega)
      have hd2 : decide ((ts.length : Int) ≤ (k : Int)) = false := decide_eq_false (by omega)
      obtain ⟨⟨f0, f1, f2⟩, hbw⟩ := HF.out wr hM.out.kp
      obtain ⟨D, hD⟩ : ∃ D, D = lenT L T := ⟨_, rfl⟩
      have HLD := Hid.mk' (fun W n hb hT hn => HLN.out T n W hb hT hn)
      rw [← hD] at HLD
      have hDs := Hid.mk' (show D ≤ 64 * 600 from by rw [hD]; exact Nat.le_trans (lenT_le hT.out) (Nat.mul_le_mul HLL.out HN6.out))
      clear hD f0 f1 f2 hbw
      go_upto_region 15 with (go_at_call 11; refine (HLD.out _ _ hM.out.x hT.out HN6.out).mono ?_; rintro e w8 ⟨rfl, hb8⟩; have HE8 := Hid.mk' hb8; clear hb8)
      have HM8 := Hid.mk' (hM.out.ext HE8.out)
      obtain ⟨⟨f0, f1, f2⟩, hbw⟩ := HF.out w8 HM8.out.kp
      have HAP := Hid.mk' (apply_any ⟨xid, st, es, xa, xc⟩ _ Gx (manyT ts k) qx T w8 HM8.out.x HBX.out hT.out (HXA.out w8 HM8.out.kp) (by have := HXT.out; have := HN7.out; show manyT ts k + es.length ≤ 1000; omega) HXS.out HXW.out)
      unfold ApPost TL.t TL.agg at HAP
      simp only [HQX.out] at HAP
      have HTA := Hid.mk' (fun (h : TbOk T (manyT ts k)) => TbOk.ap h L (t := ⟨xid, st, es.map EL.e⟩) (fun e he => by
        obtain ⟨y, hy, rfl⟩ := List.mem_map.1 he
        exact (HXS.out y hy).a))
      by_cases hE0 : apE L T ⟨xid, st, es.map EL.e⟩ = 0
      case neg =>
        rw [ap_kept hE0] at HAP
        generalize apE L T ⟨xid, st, es.map EL.e⟩ = E at HAP hE0
        generalize apP L T ⟨xid, st, es.map EL.e⟩ = P at HAP
        have hE1 : (E != 0) = true := by simpa using hE0
        go_upto_region 17 with (go_at_call 12; refine HAP.out.mono ?_; rintro e w9 ⟨rfl, hb9, hk9⟩; have HM9 := Hid.mk' (HM8.out.turn hk9 hb9 HNE.out HNE8.out (by have := HZZ.out; omega) (by have := HZZ.out; omega)); clear hb9 hk9)
        clear f0 f1 f2 hbw
        go_wp2_with (go_at_call 11; refine (HLD.out _ _ HM9.out.x hT.out HN6.out).mono ?_; rintro e w10 ⟨rfl, hb10⟩; have HM10 := Hid.mk' (HM9.out.ext hb10); clear hb10)
        go_roundg (ts.length - (k + 1))
        case measure => have := HLT.out; omega
        case rel => exact ⟨k + 1, T, al, va, vc, Nat.sub_add_cancel HLT.out, by go_num, HM10, hI, Hid.mk' (hT.out.mono (by have := HXT.out; omega)), Hid.mk' (by have := HXT.out; have := hN.out; omega), hS⟩
      have HI2 := Hid.mk' (hI.out.step (t := ⟨xid, st, es.map EL.e⟩) hE0)
      have HT2 := Hid.mk' (HTA.out hT.out)
      rw [ap_zero hE0, hE0] at HAP
      generalize apT L T ⟨xid, st, es.map EL.e⟩ = T2 at HAP HI2 HT2
      simp only [List.length_map] at HT2
      clear HTA hE0 HLD
      go_upto_region 21 with (go_at_call 12; refine HAP.out.mono ?_; rintro e w9 ⟨rfl, hb9, hk9⟩; have HM9 := Hid.mk' (HM8.out.turn hk9 hb9 HNE.out HNE8.out (by have := HZZ.out; omega) (by have := HZZ.out; omega)); clear hb9 hk9)
      clear f0 f1 f2 hbw HAP HM8 hM hI hT HE8
      have HSET : Hid (∀ w', Blk w' X8 #[.int .u32 1, .int .u64 0, .slice va al.length vc] 34 → Kp (fun x => x = Gx ∨ x = X8) w7 w' → (∀ j, w'.cell? ⟨X8, j, none⟩ = (#[.int .u32 1, .int .u64 0, .slice va al.length vc] : Array Value)[j]?) ∧ (∀ j, w'.frozen? ⟨X8, j, none⟩ = false) ∧ w'.cell? ⟨b, o + k * 3 + 2, none⟩ = some (.slice xa es.length xc) ∧ b < w'.heap.size ∧ X8 < w'.heap.size) := Hid.mk' (fun w' h1 h2 => by
        obtain ⟨⟨-, -, f2⟩, hbw⟩ := HF.out w' h2
        exact ⟨h1.cell, h1.frozen, f2, hbw, h1.lt⟩)
      have HMd := Hid.mk' (HM9.out.ext (Ext.refl w9).drew)
      have hA0 : Hid ((fun w' => (∀ j, w'.cell? ⟨X8, j, none⟩ = (#[.int .u32 1, .int .u64 0, .slice va al.length vc] : Array Value)[j]?) ∧ (∀ j, w'.frozen? ⟨X8, j, none⟩ = false) ∧ w'.cell? ⟨b, o + k * 3 + 2, none⟩ = some (.slice xa es.length xc) ∧ b < w'.heap.size ∧ X8 < w'.heap.size) w9.drew) := Hid.mk' (HSET.out _ HMd.out.blk HMd.out.kp)
      refine wp_region_head 8 (fun w' => (∀ j, w'.cell? ⟨X8, j, none⟩ = (#[.int .u32 1, .int .u64 0, .slice va al.length vc] : Array Value)[j]?) ∧ (∀ j, w'.frozen? ⟨X8, j, none⟩ = false) ∧ w'.cell? ⟨b, o + k * 3 + 2, none⟩ = some (.slice xa es.length xc) ∧ b < w'.heap.size ∧ X8 < w'.heap.size) (by kernel_rfl) (by decide) ?_
      (refine wpHd_take (i := 0) (v := ?_) rfl (by kernel_rfl) (by kernel_rfl) (by kernel_rfl) (fun _ _ _ h => h) (Or.inl ⟨by rfl, ?_⟩) hA0.out ?_; rotate_left 1; · (intro w' hS'; (try dsimp only at hS'); go_split_ands; go_simp; try with_reducible rfl))
      (refine wpHd_take (i := 1) (v := ?_) rfl (by kernel_rfl) (by kernel_rfl) (by kernel_rfl) (fun _ _ _ h => h) (Or.inl ⟨by rfl, ?_⟩) hA0.out ?_; rotate_left 1; · (intro w' hS'; (try dsimp only at hS'); go_split_ands; go_simp; try with_reducible rfl))
      (refine wpHd_take (i := 2) (v := ?_) rfl (by kernel_rfl) (by kernel_rfl) (by kernel_rfl) (fun _ _ _ h => h) (Or.inl ⟨by rfl, ?_⟩) hA0.out ?_; rotate_left 1; · (intro w' hS'; (try dsimp only at hS'); go_split_ands; go_simp; try with_reducible rfl))
      (refine wpHd_take (i := 3) (v := ?_) rfl (by kernel_rfl) (by kernel_rfl) (by kernel_rfl) (fun _ _ _ h => h) (Or.inl ⟨by rfl, ?_⟩) hA0.out ?_; rotate_left 1; · (intro w' hS'; (try dsimp only at hS'); go_split_ands; go_simp; try with_reducible rfl))
      (refine wpHd_take (i := 4) (v := ?_) rfl (by kernel_rfl) (by kernel_rfl) (by kernel_rfl) (fun _ _ _ h => h) (Or.inl ⟨by rfl, ?_⟩) hA0.out ?_; rotate_left 1; · (intro w' hS'; (try dsimp only at hS'); go_split_ands; go_simp; try with_reducible rfl))
      (refine wpHd_take (i := 5) (v := ?_) rfl (by kernel_rfl) (by kernel_rfl) (by kernel_rfl) (fun _ _ _ h => h) (Or.inl ⟨by rfl, ?_⟩) hA0.out ?_; rotate_left 1; · (intro w' hS'; (try dsimp only at hS'); go_split_ands; go_simp; try with_reducible rfl))
      (refine wpHd_take (i := 6) (v := ?_) rfl (by kernel_rfl) (by kernel_rfl) (by kernel_rfl) (fun _ _ _ h => h) (Or.inl ⟨by rfl, ?_⟩) hA0.out ?_; rotate_left 1; · (intro w' hS'; (try dsimp only at hS'); go_split_ands; go_simp; try with_reducible rfl))
      refine wpHd_one (i := 7) rfl rfl (by kernel_rfl) (fun KK hK => ?_)
      have hes := HXA.out _ HMd.out.kp
      have hsz9 : w7.heap.size ≤ w9.drew.heap.size := HMd.out.kp.size
      have hown9 := HMd.out.own
      have hno9 := HMd.out.no
      refine wp_append_all noStr (.tmp 67) (.tmp 72) 32 ?ho w7.heap.size 103 i0 _ 8 96 Tryz.underlying32 hi hz0 hz1 hz2 ?zz (by decide) (.slice va al.length vc) al.length _ ?ev1 hown9 (.slice xa es.length xc) (es.map EL.vals) ?ev2 hes.row (EL.len _) ?c1 ?c2 ?c3 hsz9 ?c4 ?c5 hno9 ?_
      case ho => rfl
      case zz => rfl
      case ev1 => (try go_simp); (try rfl)
      case ev2 => (try go_simp); (try rfl)
      case c1 =>
        intro y hy
        obtain ⟨xs, h1, h2⟩ := List.mem_flatten.1 hy
        obtain ⟨q, -, rfl⟩ := List.mem_map.1 h1
        exact EL.one q y h2
      case c2 => rw [List.length_map]; unfold maxLen; have := HXT.out; have := HN7.out; have := hN.out; omega
      case c3 => rw [List.length_map]; have := HXT.out; have := HN7.out; have := hN.out; omega
      case c4 =>
        intro u hu s e
        subst e
        simp [Value.cells] at hu
      case c5 => exact EL.nostr es
      intro v' w10 hown hgrow hat hno
      rw [List.length_map] at hown
      obtain ⟨a', c', rfl⟩ := owns_shape hown
      have HGR := Hid.mk' (HMd.out.grown hgrow (by have := HZZ.out; omega))
      have HP := Hid.mk' (HMd.out.push hgrow (by have := HZZ.out; omega) HZZ.out.1 hes.sl HXO.out hown hno)
      refine hK.out _ _ (HSET.out _ HGR.out.2.2.1 HGR.out.2.2.2) (fun hA => ?_)
      clear hK KK hA hown hgrow hat hno hes hsz9 hown9 hno9 hA0
      have gX := HGR.out.2.2.1.cell
      have gXf := HGR.out.2.2.1.frozen
      have zX := HGR.out.2.2.1.lt
      refine wpHd_tail (by kernel_rfl) ?_
      simp only [List.drop_succ_cons, List.drop_zero]
      go_wp2
      go_roundg (ts.length - (k + 1))
      case measure => have := HLT.out; omega
      case rel =>
        refine ⟨k + 1, T2, al ++ es, a', c', Nat.sub_add_cancel HLT.out, by go_num, Hid.mk' (by rw [List.length_append]; exact HP.out), Hid.mk' ?_, Hid.mk' (HT2.out.mono (by have := HXT.out; omega)), Hid.mk' (by have := HXT.out; have := hN.out; rw [List.length_append]; omega), Hid.mk' (fun e he => ?_)⟩
        · rw [List.map_append]; exact HI2.out
        · rcases List.mem_append.1 he with he | he
          · exact hS.out e he
          · exact ⟨HXS.out e he, HXW.out e he⟩
    · obtain rfl : k = ts.length := by omega
      have HN6 := Hid.mk' (HM6.out ts.length)
      have gX := hM.out.blk.cell
      have zX := hM.out.blk.lt
      have HHM := Hid.mk' hM.out
      have HEr := Hid.mk' (Kp.ext HEW7.out (fun x hx _ => by have := HZZ.out; have := HW0.out; have := HWX.out; rcases hx with hx | hx <;> omega) hM.out.kp)
      clear hM
      by_cases h512 : al.length ≤ 512
      case neg =>
        have hd5 : decide (512 < al.length) = true := decide_eq_true (by omega)
        have hd6 : decide ((512 : Int) < (al.length : Int)) = true := decide_eq_true (by omega)
        go_wp2_with (go_at_call 13; refine (awake22_any _).mono ?_; rintro e wk ⟨rfl, hbk⟩; have HBK := Hid.mk' (HEr.out.trans hbk); clear hbk)
        go_ret
        exact ⟨rfl, HBK.out⟩
      have hd5 : decide (512 < al.length) = false := decide_eq_false (by omega)
      have hd6 : decide ((512 : Int) < (al.length : Int)) = false := decide_eq_false (by omega)
      obtain ⟨e1, e2, e3⟩ := hI.out.fin (by rw [List.length_map]; exact h512)
      have HAP := Hid.mk' (apply_any ⟨1, 0, al, va, vc⟩ _ Gy 0 qy T0 wr HHM.out.y HBY.out (T0_ok 0) HHM.out.row (by show 0 + al.length ≤ 1000; omega) (fun e he => (hS.out e he).1) (fun e he => (hS.out e he).2))
      unfold ApPost TL.t TL.agg at HAP
      simp only [HQY.out, e1, e2, e3] at HAP
      clear e1 e2 e3
      go_upto_region 25 with (go_at_call 12; refine HAP.out.mono ?_; rintro e w8 ⟨rfl, hb8, hk8⟩; have HY8 := Hid.mk' hb8; have HX9 := Hid.mk' (HHM.out.x.base HHM.out.y (Ne.symm HNE.out) hk8); have HE8 := Hid.mk' (Kp.ext HEr.out (fun x hx _ => by have h1 : x = Gy := hx; have := HGYw.out; omega) hk8); clear hb8 hk8)
      have HT6 := Hid.mk' (hT.out.mono (show manyT ts ts.length ≤ 1000 by have := HN6.out; omega))
      have HS1 := Hid.mk' (fun W (h : Ext w8 W) => bsame_any _ Gx _ Gy qx qy T W (HX9.out.ext h) (HY8.out.ext h) (HQY.out.trans HQX.out.symm) HT6.out)
      have HS2 := Hid.mk' (fun W (h : Ext w8 W) => bsame_any _ Gy _ Gx qy qx T W (HY8.out.ext h) (HX9.out.ext h) (HQX.out.trans HQY.out.symm) HT6.out)
      clear HAP HHM gX zX hd5 hd6
      go_wp2_with (first
        | (go_at_call 14; refine (HS1.out _ (Ext.refl _)).mono ?_; rintro e w9 ⟨rfl, hb9⟩; have HB9 := Hid.mk' hb9; clear hb9 HS1)
        | (go_at_call 14; refine (HS2.out _ HB9.out).mono ?_; rintro e w10 ⟨rfl, hb10⟩; have HB10 := Hid.mk' (HB9.out.trans hb10); clear hb10 HS2)
        | (go_at_call 13; refine (awake22_any _).mono ?_; rintro e wk ⟨rfl, hbk⟩; have HBK := Hid.mk' ((HE8.out.trans HB10.out).trans hbk); clear hbk))
      go_ret
      exact ⟨rfl, HBK.out⟩

end Go.Proofs.YtkhlgoafeacdcaaGreat
