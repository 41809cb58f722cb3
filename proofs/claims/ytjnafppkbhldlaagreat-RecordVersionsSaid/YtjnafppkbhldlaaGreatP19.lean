/-
What is taken of any bytes, its holes filled with any texts of their sizes, is encoded as just these bytes, and has just these texts: rows in plain words.
-/
import Derived.Test.YtjnafppkbhldlaaGreatP18
namespace Go.Proofs.YtjnafppkbhldlaaGreat
open Go.RowKit

/-- Where bytes are to be filled in they are many. -/
def Hol2 (x : (K × Nat) × RS) : Prop := x.2.e = 0 → x.1.2 ≠ 0 → 64 < x.1.2
theorem Hol2.zero {c : K} {S : RS} : Hol2 ((c, 0), S) := fun _ h => absurd rfl h
end Go.Proofs.YtjnafppkbhldlaaGreat

/-
The event of a payload, in plain words; what is put is taken; cut it is too short.
-/
namespace Go.Proofs.YtjnafppkbhldlaaGreat
open Go.RowKit

/-- An event in part, its holes. -/
structure Pt where
  e : Ev
  hb : List Ho
  ha : List Ho
def Ev.zero : Ev := ⟨0, 0, 0, 0, [], [], [], 0⟩
def Pt.zero : Pt := ⟨Ev.zero, [], []⟩
def refR (st : RS) : Rf × RS := (⟨((uintR 4294967295 st).1 : Nat), ((uintR 4294967295 (uintR 4294967295 st).2).1 : Nat)⟩, (uintR 4294967295 (uintR 4294967295 st).2).2)
def refsR (st : RS) : Nat → List Rf × RS
  | 0 => ([], st)
  | k + 1 => ((refsR st k).1 ++ [(refR (refsR st k).2).1], (refR (refsR st k).2).2)
theorem refsR_len (st : RS) : ∀ k, (refsR st k).1.length = k
  | 0 => rfl
  | k + 1 => by unfold refsR; simp [refsR_len st k]
def truncR (st : RS) : Pt × RS := (⟨⟨7, 0, 0, 0, [], [], (refsR (uintR 8 (byteR st).2).2 (uintR 8 (byteR st).2).1).1, (byteR st).1⟩, [], []⟩, (refsR (uintR 8 (byteR st).2).2 (uintR 8 (byteR st).2).1).2)
def oldR (kind : Int) (st : RS) : Int × RS := if kind = 4 then (0, st) else byteR st
def capR (old : Int) (st : RS) : RS := if 2 < old then giveS st 14 else st
def befR (r : Rl) (ver old : Int) (st : RS) : (List K × List Ho) × RS := if old = 0 then (([], []), st) else takeT r ver st
def aftR (r : Rl) (ver kind : Int) (st : RS) : (List K × List Ho) × RS := if kind = 6 then (([], []), st) else takeT r ver st
def rowR (kind ver : Int) (a : Rf) (r : Rl) (st : RS) : Pt × RS :=
  let o := oldR kind st
  let b := befR r ver o.1 (capR o.1 o.2)
  let c := aftR r ver kind b.2
  (⟨⟨kind, a.o, a.v, o.1, b.1.1, c.1.1, [], 0⟩, b.1.2, c.1.2⟩, c.2)
def rowsR (kind : Int) (l : List Rl) (ver : Int) (st : RS) : Pt × RS :=
  match getR (refR st).1.o (refR st).1.v l with
  | none => (⟨⟨kind, (refR st).1.o, (refR st).1.v, 0, [], [], [], 0⟩, [], []⟩, giveS (refR st).2 10)
  | some r => rowR kind ver (refR st).1 r (refR st).2
def bodyE (kind : Int) (l : List Rl) (ver : Int) (st : RS) : Pt × RS := if kind = 7 then truncR st else rowsR kind l ver st
/-- What is wrong with taking an event; the event in part. -/
def takeEE (l : List Rl) (kind : Int) (b : List Int) (ver : Int) : Int := if kind < 4 ∨ 7 < kind then 7 else if ver = 1 ∨ ver = 2 then endE (bodyE kind l ver ⟨b, 0⟩).2 else 18
def takeEP (l : List Rl) (kind : Int) (b : List Int) (ver : Int) : Pt := if takeEE l kind b ver = 0 then (bodyE kind l ver ⟨b, 0⟩).1 else Pt.zero

/-! What is put is taken. -/
theorem refR_put {r : Rf} (h : r.u32) (l : List Int) : refR ⟨(sevens r.o.toNat ++ sevens r.v.toNat) ++ l, 0⟩ = (r, ⟨l, 0⟩) := by
  have h1 := h.o
  have h2 := h.v
  have e64 : (2 : Nat) ^ 64 = 18446744073709551616 := by decide
  have a1 := uintR_sevens (x := r.o.toNat) (m := 4294967295) (sevens r.v.toNat ++ l) (by omega) (by omega)
  have a2 := uintR_sevens (x := r.v.toNat) (m := 4294967295) l (by omega) (by omega)
  unfold refR
  rw [List.append_assoc, a1]
  simp only
  rw [a2]
  simp only
  rw [Int.toNat_of_nonneg h1.1, Int.toNat_of_nonneg h2.1]
theorem refsR_put {l : List Rf} (h : ∀ r ∈ l, r.u32) (rest : List Int) : ∀ k, k ≤ l.length → refsR ⟨refsBy l ++ rest, 0⟩ k = (l.take k, ⟨refsBy (l.drop k) ++ rest, 0⟩)
  | 0, _ => by simp [refsR]
  | k + 1, hk => by
    have ih := refsR_put h rest k (by omega)
    have hlt : k < l.length := hk
    have e : refsBy (l.drop k) = (sevens l[k].o.toNat ++ sevens l[k].v.toNat) ++ refsBy (l.drop (k + 1)) := by
      rw [List.drop_eq_getElem_cons hlt]; rfl
    unfold refsR
    rw [ih, e, List.append_assoc, refR_put (h _ (List.getElem_mem hlt))]
    simp only
    rw [List.take_succ_eq_append_getElem hlt]
def Ev.part (e : Ev) : Pt := ⟨{ e with b := blanks e.b, a := blanks e.a }, hoL e.b, hoL e.a⟩
theorem body_put {e : Ev} {l : List Rl} {ver : Int} (h : evE e l = 0) (hk : 4 ≤ e.kind ∧ e.kind ≤ 7) (hv : ver = 1 ∨ ver = 2) (ho : 0 ≤ e.old) (hb : ∀ c ∈ e.b, c.tw) (ha : ∀ c ∈ e.a, c.tw) (hr : ∀ r ∈ e.rs, r.u32) (hat : (⟨e.ao, e.av⟩ : Rf).u32) :
    bodyE e.kind l ver ⟨recPay e l ver, 0⟩ = (e.part, ⟨[], 0⟩) := by
  unfold bodyE recPay
  by_cases h7 : e.kind = 7
  · rw [if_pos h7, if_pos h7]
    obtain ⟨h1, h2, h3, h4, h5, h6, h8, -⟩ := ev_trunc h h7
    have e64 : (2 : Nat) ^ 64 = 18446744073709551616 := by decide
    unfold truncR
    rw [List.cons_append, byteR_cons]
    simp only
    have h9 := uintR_sevens (x := e.rs.length) (m := 8) (refsBy e.rs) (by omega) (by omega)
    rw [h9]
    simp only
    have h10 := refsR_put hr [] e.rs.length (Nat.le_refl _)
    rw [List.append_nil] at h10
    rw [h10, List.take_length, List.drop_length]
    unfold Ev.part
    obtain ⟨kind, ao, av, old, b, a, rs, fl⟩ := e
    simp only at h7 h3 h4 h5 h6 h8 ⊢
    subst h7 h3 h4 h5 h6 h8
    rfl
  · rw [if_neg h7, if_neg h7]
    obtain ⟨r, hg, hok⟩ := ev_ok h h7 ho
    have hc : colsOf e l = r.cols := by unfold colsOf; rw [hg]
    rw [hc]
    unfold rowsR evPay evHead
    have h1 := refR_put hat ((if e.kind = 4 then [] else [e.old]) ++ (imgPay e.b r.cols ver ++ imgPay e.a r.cols ver))
    simp only at h1
    rw [List.append_assoc, h1]
    simp only
    rw [hg]
    simp only
    unfold rowR
    have h2 : oldR e.kind ⟨(if e.kind = 4 then [] else [e.old]) ++ (imgPay e.b r.cols ver ++ imgPay e.a r.cols ver), 0⟩ = (e.old, ⟨imgPay e.b r.cols ver ++ imgPay e.a r.cols ver, 0⟩) := by
      unfold oldR
      by_cases h4 : e.kind = 4
      · rw [if_pos h4, if_pos h4, hok.ins h4, List.nil_append]
      · rw [if_neg h4, if_neg h4, List.singleton_append, byteR_cons]
    rw [h2]
    simp only
    have h3 : capR e.old ⟨imgPay e.b r.cols ver ++ imgPay e.a r.cols ver, 0⟩ = ⟨imgPay e.b r.cols ver ++ imgPay e.a r.cols ver, 0⟩ := by
      unfold capR; rw [if_neg (by have := hok.old; omega)]
    rw [h3]
    have h4 : befR r ver e.old ⟨imgPay e.b r.cols ver ++ imgPay e.a r.cols ver, 0⟩ = ((blanks e.b, hoL e.b), ⟨imgPay e.a r.cols ver, 0⟩) := by
      unfold befR
      by_cases h0 : e.old = 0
      · rw [if_pos h0, hok.b0 h0, imgPay_nil]; rfl
      · have hf := hok.b h0
        rw [if_neg h0]
        conv => lhs; arg 3; unfold imgPay
        rw [if_neg (fits_ne hf)]
        exact takeT_put hf hv hb _
    rw [h4]
    simp only
    have h5 : aftR r ver e.kind ⟨imgPay e.a r.cols ver, 0⟩ = ((blanks e.a, hoL e.a), ⟨[], 0⟩) := by
      unfold aftR
      by_cases h6 : e.kind = 6
      · rw [if_pos h6, hok.a6 h6, imgPay_nil]; rfl
      · have hf := hok.a h6
        rw [if_neg h6]
        unfold imgPay
        rw [if_neg (fits_ne hf)]
        have := takeT_put hf hv ha []
        rw [List.append_nil] at this
        exact this
    rw [h5]
    have h6 := hok.rs
    have h8 := hok.fl
    unfold Ev.part
    obtain ⟨kind, ao, av, old, b, a, rs, fl⟩ := e
    simp only at h6 h8 ⊢
    rw [h6, h8]

/-! Cut, it is too short. -/
theorem Mn.ref : Mn refR := (Mn.uint 4294967295).bind (g := fun (x : Nat) (st : RS) => ((⟨(x : Nat), ((uintR 4294967295 st).1 : Nat)⟩ : Rf), (uintR 4294967295 st).2)) fun x => (Mn.uint 4294967295).map fun y => (⟨(x : Nat), (y : Nat)⟩ : Rf)
theorem Mn.refs : ∀ k, Mn (fun st => refsR st k)
  | 0 => Mn.pure _
  | k + 1 => (Mn.refs k).bind (g := fun (a : List Rf) (st : RS) => (a ++ [(refR st).1], (refR st).2)) fun a => Mn.ref.map fun r => a ++ [r]
theorem Mn.trunc : Mn truncR :=
  Mn.byte.bind (g := fun (f : Int) (st : RS) => ((⟨⟨7, 0, 0, 0, [], [], (refsR (uintR 8 st).2 (uintR 8 st).1).1, f⟩, [], []⟩ : Pt), (refsR (uintR 8 st).2 (uintR 8 st).1).2)) fun f =>
    (Mn.uint 8).bind (g := fun (n : Nat) (st : RS) => ((⟨⟨7, 0, 0, 0, [], [], (refsR st n).1, f⟩, [], []⟩ : Pt), (refsR st n).2)) fun n => (Mn.refs n).map fun rs => (⟨⟨7, 0, 0, 0, [], [], rs, f⟩, [], []⟩ : Pt)
theorem Mn.old (kind : Int) : Mn (oldR kind) := by unfold oldR; exact Mn.ite (Mn.pure 0) Mn.byte
theorem Mn.cap (old : Int) : Mn (fun st => ((), capR old st)) := by
  unfold capR
  exact Mn.of (g := fun st => if 2 < old then ((), giveS st 14) else ((), st)) (fun st => by split <;> rfl) (Mn.ite (Mn.give () (by decide)) (Mn.pure ()))
theorem Mn.bef (r : Rl) (ver old : Int) : Mn (befR r ver old) := by unfold befR; exact Mn.ite (Mn.pure _) (Mn.row r ver)
theorem Mn.aft (r : Rl) (ver kind : Int) : Mn (aftR r ver kind) := by unfold aftR; exact Mn.ite (Mn.pure _) (Mn.row r ver)
theorem Mn.rowP (kind ver : Int) (a : Rf) (r : Rl) : Mn (rowR kind ver a r) := by
  unfold rowR
  refine (Mn.old kind).bind (g := fun (o : Int) (st : RS) => let b := befR r ver o (capR o st); let c := aftR r ver kind b.2; ((⟨⟨kind, a.o, a.v, o, b.1.1, c.1.1, [], 0⟩, b.1.2, c.1.2⟩ : Pt), c.2)) fun o => ?_
  refine (Mn.cap o).bind (g := fun (_ : Unit) (st : RS) => let b := befR r ver o st; let c := aftR r ver kind b.2; ((⟨⟨kind, a.o, a.v, o, b.1.1, c.1.1, [], 0⟩, b.1.2, c.1.2⟩ : Pt), c.2)) fun _ => ?_
  refine (Mn.bef r ver o).bind (g := fun (b : List K × List Ho) (st : RS) => let c := aftR r ver kind st; ((⟨⟨kind, a.o, a.v, o, b.1, c.1.1, [], 0⟩, b.2, c.1.2⟩ : Pt), c.2)) fun b => ?_
  exact (Mn.aft r ver kind).map fun c => (⟨⟨kind, a.o, a.v, o, b.1, c.1, [], 0⟩, b.2, c.2⟩ : Pt)
theorem Mn.rowsP (kind : Int) (l : List Rl) (ver : Int) : Mn (rowsR kind l ver) := by
  unfold rowsR
  refine Mn.ref.bind (g := fun (a : Rf) (st : RS) => match getR a.o a.v l with
    | none => ((⟨⟨kind, a.o, a.v, 0, [], [], [], 0⟩, [], []⟩ : Pt), giveS st 10)
    | some r => rowR kind ver a r st) fun a => ?_
  cases getR a.o a.v l with
  | none => exact Mn.give _ (by decide)
  | some r => exact Mn.rowP kind ver a r
theorem Mn.bodyP (kind : Int) (l : List Rl) (ver : Int) : Mn (bodyE kind l ver) := by unfold bodyE; exact Mn.ite Mn.trunc (Mn.rowsP kind l ver)
theorem body_cut {e : Ev} {l : List Rl} {ver : Int} (h : evE e l = 0) (hk : 4 ≤ e.kind ∧ e.kind ≤ 7) (hv : ver = 1 ∨ ver = 2) (ho : 0 ≤ e.old) (hb : ∀ c ∈ e.b, c.tw) (ha : ∀ c ∈ e.a, c.tw) (hr : ∀ r ∈ e.rs, r.u32) (hat : (⟨e.ao, e.av⟩ : Rf).u32)
    {k : Nat} (hkl : k < (recPay e l ver).length) : takeEE l e.kind ((recPay e l ver).take k) ver = 1 := by
  have h1 := body_put h hk hv ho hb ha hr hat
  have h2 : (bodyE e.kind l ver ⟨(recPay e l ver).take k, 0⟩).2.e = 1 :=
    (Mn.bodyP e.kind l ver).cut (q := (recPay e l ver).take k) (r := (recPay e l ver).drop k) (by rw [List.take_append_drop, h1]) (fun q => by
      have := congrArg List.length q
      rw [List.length_drop, List.length_nil] at this
      omega)
  unfold takeEE
  rw [if_neg (by omega), if_pos hv]
  unfold endE
  rw [if_neg (by rw [h2]; simp), h2]
theorem recPay_pos {e : Ev} {l : List Rl} {ver : Int} : 0 < (recPay e l ver).length := by
  have hs : ∀ x : Nat, 0 < (sevens x).length := fun x => by
    by_cases h : x < 128
    · rw [sevens_lt h]; exact Nat.zero_lt_one
    · rw [sevens_ge h, List.length_cons]; omega
  unfold recPay evPay evHead
  split
  · rw [List.cons_append, List.length_cons]; omega
  · have := hs e.ao.toNat
    rw [List.length_append, List.length_append, List.length_append]; omega

end Go.Proofs.YtjnafppkbhldlaaGreat

/-
The event in part, filled with texts of pieces; put again it is just the payload and the pieces: in plain words.
-/
namespace Go.Proofs.YtjnafppkbhldlaaGreat
open Go.RowKit

def sizesP (p : Pt) : List Int := p.hb.map Ho.n ++ p.ha.map Ho.n
def textsP (p : Pt) (ps : List ByteArray) : List ByteArray := joinT ps ((sizesP p).map Int.toNat)
/-- What is wrong with filling an event in part; the event. -/
def fillPE (p : Pt) (ps : List ByteArray) : Int :=
  if joinE ps (sizesP p) ≠ 0 then joinE ps (sizesP p)
  else if fillE p.e.b p.hb ((textsP p ps).take p.hb.length) ≠ 0 then fillE p.e.b p.hb ((textsP p ps).take p.hb.length)
  else fillE p.e.a p.ha ((textsP p ps).drop p.hb.length)
def fillPV (p : Pt) (ps : List ByteArray) : Ev :=
  if fillPE p ps = 0 then { p.e with b := fillUp p.e.b p.hb ((textsP p ps).take p.hb.length) p.hb.length, a := fillUp p.e.a p.ha ((textsP p ps).drop p.hb.length) p.ha.length } else Ev.zero
theorem joinE_zero {ps : List ByteArray} {ns : List Int} (h : joinE ps ns = 0) : (∀ n ∈ ns, 0 ≤ n ∧ n ≤ 2048) ∧ ps.map ByteArray.size = lensL (ns.map Int.toNat) := by
  unfold joinE at h
  split at h
  · cases h
  rename_i h1
  split at h
  · rename_i h2
    refine ⟨fun n hn => ?_, h2⟩
    have h3 : ns.any (fun n => decide (n < 0 ∨ 2048 < n)) = false := by simpa using h1
    rw [List.any_eq_false] at h3
    have := h3 n hn
    simp only [decide_eq_true_eq] at this
    omega
  · cases h
/-- What is put is taken, and filled with its pieces, as it was. -/
theorem tx_sizes {l : List K} (_h : True) : (hoL l).map Ho.n = (txL l).map fun s => (s.size : Int) := by
  unfold hoL txL
  rw [List.map_map, List.map_map]
  rfl
theorem part_fill {e : Ev} (hb : e.b = [] ∨ ∃ r, fitsE e.b r = 0) (ha : e.a = [] ∨ ∃ r, fitsE e.a r = 0) (h7 : e.kind = 7 → e.b = [] ∧ e.a = []) (hsb : ∀ c ∈ e.b, c.tw) (hsa : ∀ c ∈ e.a, c.tw) :
    fillPE e.part (recTx e) = 0 ∧ fillPV e.part (recTx e) = e ∧ lensL ((sizesP e.part).map Int.toNat) = (recTx e).map ByteArray.size := by
  have hst : sizesP e.part = (txL e.b ++ txL e.a).map fun s => (s.size : Int) := by
    unfold sizesP Ev.part
    simp only
    rw [tx_sizes trivial, tx_sizes trivial, List.map_append]
  have hsn : (sizesP e.part).map Int.toNat = (txL e.b ++ txL e.a).map ByteArray.size := by
    rw [hst, List.map_map]
    refine List.map_congr_left (fun s _ => ?_)
    simp
  have hrt : recTx e = splitL (txL e.b ++ txL e.a) := by
    unfold recTx
    split
    · rename_i h
      obtain ⟨h1, h2⟩ := h7 h
      rw [h1, h2]; rfl
    · rfl
  have hT : textsP e.part (recTx e) = txL e.b ++ txL e.a := by
    unfold textsP
    rw [hsn, hrt]; exact join_split _
  have hsz : ∀ s ∈ txL e.b ++ txL e.a, s.size ≤ 2048 := by
    have key : ∀ (l : List K), (l = [] ∨ ∃ r, fitsE l r = 0) → ∀ s ∈ txL l, s.size ≤ 2048 := by
      intro l hl s hs
      unfold txL at hs
      rw [List.mem_map] at hs
      obtain ⟨x, hx, rfl⟩ := hs
      obtain ⟨-, hi, hL, hxs⟩ := larges_mem l.length x hx
      rcases hl with rfl | ⟨r, hr⟩
      · simp at hi
      · obtain ⟨-, h1, h2⟩ := fitsW_zero hr
        have h3 := h2 x.1 hi (by omega)
        unfold K.right at h3
        have h4 := hL
        unfold largeB at h4
        rw [decide_eq_true_eq] at h4
        rw [h4.1] at h3
        rw [hxs]
        exact (right_zero (right_full h3).1).2.2.1
    intro s hs
    rcases List.mem_append.1 hs with hs | hs
    · exact key e.b hb s hs
    · exact key e.a ha s hs
  have hJ : joinE (recTx e) (sizesP e.part) = 0 := by
    unfold joinE
    rw [if_neg, if_pos (by rw [hsn, hrt]; exact split_sizes _)]
    rw [hst]
    simp only [List.any_map, List.any_eq_true, Function.comp_def, decide_eq_true_eq, not_exists, not_and]
    intro s hs
    have := hsz s hs
    omega
  have hlb : e.part.hb.length = (txL e.b).length := by
    show (hoL e.b).length = _
    rw [hoL_len, txL_len]
  have hTb : (textsP e.part (recTx e)).take e.part.hb.length = txL e.b := by rw [hT, hlb, List.take_left]
  have hTa : (textsP e.part (recTx e)).drop e.part.hb.length = txL e.a := by rw [hT, hlb, List.drop_left]
  have hfb : fillE (blanks e.b) (hoL e.b) (txL e.b) = 0 ∧ fillUp (blanks e.b) (hoL e.b) (txL e.b) (hoL e.b).length = e.b := by
    rcases hb with h0 | ⟨r, hr⟩
    · rw [h0]; exact ⟨rfl, rfl⟩
    · have h := fill_put hr hsb
      refine ⟨h.1, ?_⟩
      have h2 := h.2
      unfold fillW at h2
      rw [if_pos h.1] at h2
      exact h2
  have hfa : fillE (blanks e.a) (hoL e.a) (txL e.a) = 0 ∧ fillUp (blanks e.a) (hoL e.a) (txL e.a) (hoL e.a).length = e.a := by
    rcases ha with h0 | ⟨r, hr⟩
    · rw [h0]; exact ⟨rfl, rfl⟩
    · have h := fill_put hr hsa
      refine ⟨h.1, ?_⟩
      have h2 := h.2
      unfold fillW at h2
      rw [if_pos h.1] at h2
      exact h2
  have hE : fillPE e.part (recTx e) = 0 := by
    unfold fillPE
    rw [if_neg (by simpa using hJ), hTb, hTa, if_neg (fun q => q hfb.1)]
    exact hfa.1
  refine ⟨hE, ?_, ?_⟩
  · unfold fillPV
    rw [if_pos hE, hTb, hTa]
    have h1 := hfb.2
    have h2 := hfa.2
    unfold Ev.part
    simp only
    rw [h1, h2]
  · exact (joinE_zero hJ).2.symm

end Go.Proofs.YtjnafppkbhldlaaGreat

/-
The reference's reader: bytes, numbers.
-/
namespace Go.Proofs.YtjnafppkbhldlaaGreat
open Go.RowKit

end Go.Proofs.YtjnafppkbhldlaaGreat
