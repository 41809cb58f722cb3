/-
Opening any arguments by their types (structs and arrays laid flat; slices), and closing a law's row: true, and all reads as it did.
-/
import Derived.ProofKit
import Derived.OpenShut
import Derived.Deep.Slices
import Derived.Carry
import Derived.Test.YtdlhaidlokkmnaaGreatDoorP1
import Derived.Test.YtdlhaidlokkmnaaGreatDoorP17
import Derived.Test.YtdlhaidlokkmnaaGreatDoorP27
set_option maxRecDepth 100000
set_option maxHeartbeats 16000000
namespace Go.Proofs.YtdlhaidlokkmnaaGreatDoor
open Go.RowKit Go.ChangeShapes Go.WideShapes Go.ChangeAt
section
variable {H : Type} {enc : TypeId × Value → H} {P : Program} {w : World} {base : Nat} {spare : Nat → Bool} {held : Bool}
def Lf (enc : TypeId × Value → H) (P : Program) (w : World) (base : Nat) (spare : Nat → Bool) (held : Bool) (t : TypeId) (c : Value) : Prop := ∃ n x, DataW.trod enc P w base spare held n t [c] = some x
def Lfs (enc : TypeId × Value → H) (P : Program) (w : World) (base : Nat) (spare : Nat → Bool) (held : Bool) : List TypeId → List Value → Prop
  | [], [] => True
  | t :: ts, c :: cs => Lf enc P w base spare held t c ∧ Lfs enc P w base spare held ts cs
  | _, _ => False
theorem Lfs.append : ∀ (ts us : List TypeId) (cs : List Value), Lfs enc P w base spare held ts (cs.take ts.length) → Lfs enc P w base spare held us (cs.drop ts.length) → Lfs enc P w base spare held (ts ++ us) cs
  | [], us, cs, _, h => by simpa using h
  | t :: ts, us, [], h, _ => by simp [Lfs] at h
  | t :: ts, us, c :: cs, h, h' => by
    simp only [List.length_cons, List.take_succ_cons, Lfs] at h
    exact ⟨h.1, Lfs.append ts us cs h.2 (by simpa using h')⟩
def offs (P : Program) : Nat → List Field → List (List TypeId) → Bool
  | _, [], [] => true
  | o, f :: fs, l :: ls => f.offset == o && P.cellsOf f.type == l.length && offs P (o + l.length) fs ls
  | _, _, _ => false
def flat (P : Program) : Nat → TypeId → Option (List TypeId)
  | 0, _ => none
  | k + 1, t =>
    match P.underlying t with
    | some (.struct fs) => (fs.toList.mapM fun f => flat P k f.type).bind fun ls => if offs P 0 fs.toList ls && P.cellsOf t == ls.flatten.length then some ls.flatten else none
    | some (.array n e) => (flat P k e).bind fun l => if P.cellsOf e == l.length && P.cellsOf t == n * l.length then some (List.replicate n l).flatten else none
    | _ => some [t]
theorem trod_single {n : Nat} {t : TypeId} {cs : List Value} {x : DataW H × List MemPlace} (h : DataW.trod enc P w base spare held n t cs = some x)
    (h1 : ∀ fs, P.underlying t ≠ some (.struct fs)) (h2 : ∀ n e, P.underlying t ≠ some (.array n e)) : ∃ c, cs = [c] := by
  cases n with
  | zero => simp [DataW.trod] at h
  | succ n =>
    unfold DataW.trod at h
    split at h
    all_goals first
      | exact ⟨_, rfl⟩
      | (rename_i h3; exact absurd h3 (h1 _))
      | (rename_i h3; exact absurd h3 (h2 _ _))
      | simp at h
theorem offs_open (k : Nat) (ih : ∀ (t : TypeId) (ts : List TypeId) (n : Nat) (cs : List Value) (x : DataW H × List MemPlace), flat P k t = some ts → DataW.trod enc P w base spare held n t cs = some x → Lfs enc P w base spare held ts cs)
    (n : Nat) (cs : List Value) : ∀ (fs : List Field) (ls : List (List TypeId)) (o : Nat), offs P o fs ls = true → (fs.mapM fun f => flat P k f.type) = some ls →
    cs.length = o + ls.flatten.length →
    (∀ f ∈ fs, ∃ y, DataW.trod enc P w base spare held n f.type ((cs.drop f.offset).take (P.cellsOf f.type)) = some y) → Lfs enc P w base spare held ls.flatten (cs.drop o) := by
  intro fs
  induction fs with
  | nil =>
    intro ls o ho hm hl _
    cases ls with
    | nil => simp at hl; rw [List.drop_eq_nil_of_le (by omega)]; trivial
    | cons l ls => simp [offs] at ho
  | cons f fs ih2 =>
    intro ls o ho hm hl hf
    cases ls with
    | nil => simp [offs] at ho
    | cons l ls =>
      simp only [offs, Bool.and_eq_true, beq_iff_eq] at ho
      obtain ⟨⟨ho1, ho2⟩, ho3⟩ := ho
      simp only [List.mapM_cons, Option.bind_eq_bind, Option.bind_eq_some_iff, Option.pure_def, Option.some.injEq, List.cons.injEq] at hm
      obtain ⟨l', h1, ls', h2, rfl, rfl⟩ := hm
      obtain ⟨y, hy⟩ := hf f (by simp)
      rw [ho1, ho2] at hy
      have a1 := ih f.type l' n _ y h1 hy
      simp only [List.flatten_cons, List.length_append] at hl
      have a2 := ih2 ls' (o + l'.length) ho3 h2 (by omega) (fun g hg => hf g (by simp [hg]))
      rw [List.flatten_cons]
      exact Lfs.append l' ls'.flatten _ a1 (by rw [List.drop_drop]; exact a2)
theorem arr_open (l : List TypeId) (e : TypeId) (n : Nat) (he : P.cellsOf e = l.length) (h1 : ∀ cs x, DataW.trod enc P w base spare held n e cs = some x → Lfs enc P w base spare held l cs) (cs : List Value) :
    ∀ (m i : Nat), cs.length = (i + m) * l.length → (∀ j, i ≤ j → j < i + m → ∃ y, DataW.trod enc P w base spare held n e ((cs.drop (j * P.cellsOf e)).take (P.cellsOf e)) = some y) →
    Lfs enc P w base spare held (List.replicate m l).flatten (cs.drop (i * l.length)) := by
  intro m
  induction m with
  | zero => intro i hl _; rw [List.drop_eq_nil_of_le (by simp at hl; omega)]; simp [Lfs]
  | succ m ih =>
    intro i hl hf
    obtain ⟨y, hy⟩ := hf i (by omega) (by omega)
    rw [he] at hy
    have a1 := h1 _ y hy
    have a2 := ih (i + 1) (by rw [hl]; congr 1; omega) (fun j h1 h2 => hf j (by omega) (by omega))
    rw [List.replicate_succ, List.flatten_cons]
    refine Lfs.append l _ _ a1 ?_
    rw [List.drop_drop, ← Nat.succ_mul]
    exact a2
theorem flat_open (k : Nat) : ∀ (t : TypeId) (ts : List TypeId) (n : Nat) (cs : List Value) (x : DataW H × List MemPlace), flat P k t = some ts → DataW.trod enc P w base spare held n t cs = some x → Lfs enc P w base spare held ts cs := by
  induction k with
  | zero => intro t ts n cs x h; simp [flat] at h
  | succ k ih =>
    intro t ts n cs x h hx
    unfold flat at h
    split at h
    · rename_i fs hu
      obtain ⟨xs, m, _, rfl, hlen, hxl, hf⟩ := DataW.trod_struct hu hx
      simp only [Option.bind_eq_some_iff] at h
      obtain ⟨ls, hm, h⟩ := h
      split at h
      · rename_i hc
        rw [Bool.and_eq_true, beq_iff_eq] at hc
        cases h
        have := offs_open k ih m cs fs.toList ls 0 hc.1 hm (by rw [hlen, hc.2, Nat.zero_add]) (fun f hfm => by
          obtain ⟨i, hi, hif⟩ := List.mem_iff_getElem.1 hfm
          have hi' : i < fs.size := by simpa using hi
          have g : fs[i]? = some f := by rw [← hif]; simp [hi']
          have := hf i f g
          rw [List.getElem?_eq_getElem (by omega)] at this
          exact ⟨_, this⟩)
        simpa using this
      · cases h
    · rename_i m e hu
      obtain ⟨xs, q, _, rfl, hlen, hxl, hf⟩ := DataW.trod_array hu hx
      simp only [Option.bind_eq_some_iff] at h
      obtain ⟨l, hl, h⟩ := h
      split at h
      · rename_i hc
        rw [Bool.and_eq_true, beq_iff_eq, beq_iff_eq] at hc
        cases h
        have := arr_open (enc := enc) (P := P) (w := w) (base := base) (spare := spare) (held := held) l e q hc.1 (fun cs y hy => ih e l q cs y hl hy) cs m 0 (by rw [hlen, hc.2, Nat.zero_add]) (fun j _ hj => by
          have := hf j (by omega)
          rw [List.getElem?_eq_getElem (by omega)] at this
          exact ⟨_, this⟩)
        simpa using this
      · cases h
    · rename_i h1 h2
      cases h
      obtain ⟨c, rfl⟩ := trod_single hx (fun fs e => h1 fs e) (fun n e he => h2 n e he)
      exact ⟨⟨n, x, hx⟩, trivial⟩
theorem Lf.int {t : TypeId} {c : Value} {k : IntKind} (h : Lf enc P w base spare held t c) (ht : P.underlying t = some (.int k)) : ∃ n, c = .int k n ∧ (Lit.int k n).wf = true := by
  obtain ⟨m, x, h⟩ := h
  obtain ⟨n, h1, _, h3⟩ := DataW.trod_int ht h
  cases h1
  exact ⟨n, rfl, h3⟩
theorem Lf.string {t : TypeId} {c : Value} (h : Lf enc P w base spare held t c) (ht : P.underlying t = some .string) : ∃ s : ByteArray, c = .string s ∧ s.size ≤ 9223372036854775807 := by
  obtain ⟨m, x, h⟩ := h
  obtain ⟨n, h1, _, h3⟩ := DataW.trod_string ht h
  cases h1
  exact ⟨n, rfl, h3⟩
theorem Lf.bool {t : TypeId} {c : Value} (h : Lf enc P w base spare held t c) (ht : P.underlying t = some .bool) : ∃ b : Bool, c = .bool b := by
  obtain ⟨m, x, h⟩ := h
  obtain ⟨n, h1, _⟩ := DataW.trod_bool ht h
  cases h1
  exact ⟨n, rfl⟩
theorem trod_sl {T E : TypeId} {k n : Nat} {cs : List Value} {x : DataW H × List MemPlace} (ht : P.underlying T = some (.slice E)) (hk : P.cellsOf E = k) (hk0 : 0 < k) (h : DataW.trod enc P w base spare held n T cs = some x) :
    ∃ v xss, cs = [v] ∧ Sl w v k xss ∧ xss.length ≤ 9223372036854775807 ∧ ∀ xs ∈ xss, xs.length = k ∧ ∃ n x, DataW.trod enc P w base spare held n E xs = some x := by
  rcases Go.Deep.open_slice ht h with ⟨rfl, _⟩ | ⟨a, len, cap, m, q, D, Pl, rfl, hb, hl, hm, hmm, _, hx⟩
  · exact ⟨_, [], rfl, ⟨none, 0, rfl, .inl rfl⟩, by simp, by simp⟩
  · have hlm : len ≤ m := by rw [hmm]; split <;> omega
    have hall : ∀ i, i < len → ∃ cs', w.cells? base (a.add (i * k)) k = some cs' ∧ DataW.trod enc P w base spare held q E cs' = some (D i, Pl i) := fun i hi => by
      have := hx i (by omega); rwa [hk] at this
    obtain ⟨C, hC⟩ := Go.Deep.choose_lt hall
    have hcl : cap ≤ 9223372036854775807 := hm
    refine ⟨_, (List.range len).map C, rfl, ?_, by simp; omega, ?_⟩
    · refine ⟨some a, cap, by simp, ?_⟩
      by_cases h0 : len = 0
      · subst h0; exact .inl rfl
      · right
        have hc0 := (World.cells?_some (hC 0 (by omega)).1)
        have e0 : (a.add (0 * k)).add 0 = a := by unfold Addr.add; simp
        have hcell : (w.cell? a).isSome = true := by
          have := hc0.2.2 0 hk0
          rw [e0] at this
          rw [this, List.getElem?_eq_getElem (by omega)]; rfl
        have hsp : a.spot = none := by
          unfold World.cell? at hcell
          split at hcell
          · split at hcell
            · simp at hcell
            · rename_i hs; simpa using hs
          · simp at hcell
        have hlt : a.block < w.heap.size := by
          unfold World.cell? at hcell
          rcases Nat.lt_or_ge a.block w.heap.size with h1 | h1
          · exact h1
          · rw [Array.getElem?_eq_none h1] at hcell; simp at hcell
        refine ⟨a.block, a.off, by cases a; simp at hsp; subst hsp; rfl, hlt, ?_⟩
        intro i hi j hj
        simp only [List.length_map, List.length_range] at hi
        have h2 := (World.cells?_some (hC i hi).1).2.2 j hj
        rw [Go.Deep.add_add] at h2
        have e : a.add (i * k + j) = ⟨a.block, a.off + i * k + j, none⟩ := by
          unfold Addr.add
          split
          · rename_i hz
            have h3 : i * k = 0 := by omega
            have h4 : j = 0 := by omega
            cases a; simp at hsp; subst hsp; simp [h3, h4]
          · cases a; simp at hsp; subst hsp; simp
        rw [e] at h2
        rw [h2]
        simp [hi]
    · intro xs hxs
      simp only [List.mem_map, List.mem_range] at hxs
      obtain ⟨i, hi, rfl⟩ := hxs
      exact ⟨(World.cells?_some (hC i hi).1).2.1, _, _, (hC i hi).2⟩
theorem exists_map {α β : Type} {f : α → β} {p : α → Prop} : ∀ (l : List β), (∀ y ∈ l, ∃ x, y = f x ∧ p x) → ∃ l' : List α, l = l'.map f ∧ ∀ x ∈ l', p x
  | [], _ => ⟨[], rfl, by simp⟩
  | y :: l, h => by
    obtain ⟨x, hx, hp⟩ := h y (by simp)
    obtain ⟨l', hl, hl'⟩ := exists_map l (fun z hz => h z (by simp [hz]))
    exact ⟨x :: l', by rw [hx, hl]; rfl, by intro z hz; rcases List.mem_cons.1 hz with rfl | hz; exact hp; exact hl' z hz⟩
theorem trodAll_stays {W W' : World} (hl : laidOutB P = true) (hE : Ext W W') : ∀ (ts : List TypeId) (vs : List Value) (ds : List (DataW H)) (ps : List MemPlace), (∀ t ∈ ts, P.readableRec t = true ∧ t < P.types.size) →
    DataW.TrodAll enc P W 0 (fun _ => true) true ts vs ds ps → (∀ x ∈ ps, x.block < W.heap.size) → DataW.TrodAll enc P W' 0 (fun b => decide (b < W.heap.size)) true ts vs ds ps
  | [], [], [], ps, _, h, _ => h
  | t :: ts, v :: vs, d :: ds, ps, hr, h, hlt => by
    obtain ⟨p, q, h1, h2, rfl⟩ := h
    refine ⟨p, q, Below.trod hl (hr t (by simp)).1 (hr t (by simp)).2 h1 hE (fun x hx => hlt x (by simp [hx])), ?_, rfl⟩
    exact trodAll_stays hl hE ts vs ds q (fun u hu => hr u (by simp [hu])) h2 (fun x hx => hlt x (by simp [hx]))
  | [], _ :: _, _, _, _, h, _ => by simp [DataW.TrodAll] at h
  | [], [], _ :: _, _, _, h, _ => by simp [DataW.TrodAll] at h
  | _ :: _, [], _, _, _, h, _ => by simp [DataW.TrodAll] at h
  | _ :: _, _ :: _, [], _, _, h, _ => by simp [DataW.TrodAll] at h
theorem post_law {f : Func} {s : ChangeSpec} {apart : Bool} {W W' : World} {args : Array Value} {ds gs : List (DataW H)} {before : List MemPlace} {tb : TypeId}
    (hl : laidOutB P = true) (hb : P.underlying tb = some .bool) (hrt : f.resultTypes = #[tb]) (hr : f.params.toList.all (fun t => P.readableRec t && decide (t < P.types.size)) = true) (hv : s.vars = [])
    (hW : DataW.Whole enc P f.params.toList s.vars apart W args.toList ds gs before)
    (h1 : (s.fn H (ds ++ gs)).results = [.lit (.bool true)]) (h2 : (s.fn H (ds ++ gs)).args = ds) (h3 : (s.fn H (ds ++ gs)).vars = []) (hE : Ext W W') :
    s.post enc P f apart true false false W args (.bool true) W' := by
  have hW' := hW
  have hlt := hW.lt
  obtain ⟨p, q, hA, hV, rfl, _, _⟩ := hW
  refine ⟨ds, gs, p ++ q, [], p, [], hW', ?_, ?_, ?_, Below.frame hE _, fun h => by cases h⟩
  · rw [h1, hrt]
    exact trodAll_mk1 (shut_bool hb true)
  · rw [h2]
    refine trodAll_stays hl hE _ _ _ _ (fun t ht => ?_) hA (fun x hx => by simpa using hlt x (by simp [hx]))
    have := List.all_eq_true.1 hr t ht
    simpa using this
  · rw [hv, h3]; rfl
end
end Go.Proofs.YtdlhaidlokkmnaaGreatDoor
namespace Go.Proofs.YtdlhaidlokkmnaaGreatDoor
open Go.RowKit Go.ChangeShapes Go.WideShapes Go.ChangeAt
theorem Tryz.ownG : ownKnob Tryz.prog.godebug = none := by kernel_rfl
theorem Tryz.laidOutG : laidOutB Tryz.prog = true := by kernel_rfl
theorem wfG_u8 {n : Int} (h : (Lit.int .u8 n).wf = true) : 0 ≤ n ∧ n < 256 := by
  simp [Lit.wf, IntKind.min, IntKind.max, IntKind.signed, IntKind.bits] at h; omega
theorem wfG_u32 {n : Int} (h : (Lit.int .u32 n).wf = true) : 0 ≤ n ∧ n < 4294967296 := by
  simp [Lit.wf, IntKind.min, IntKind.max, IntKind.signed, IntKind.bits] at h; omega
theorem wfG_u64 {n : Int} (h : (Lit.int .u64 n).wf = true) : 0 ≤ n ∧ n < 18446744073709551616 := by
  simp [Lit.wf, IntKind.min, IntKind.max, IntKind.signed, IntKind.bits] at h; omega
theorem wfG_i64 {n : Int} (h : (Lit.int .i64 n).wf = true) : -9223372036854775808 ≤ n ∧ n < 9223372036854775808 := by
  simp [Lit.wf, IntKind.min, IntKind.max, IntKind.signed, IntKind.bits] at h; omega
section
variable {H : Type} {enc : TypeId × Value → H} {w : World} {base : Nat} {spare : Nat → Bool} {held : Bool} {r : Reach} {base2 : Nat} {v : Value} {d : DataW H} {ps : List MemPlace}
end
end Go.Proofs.YtdlhaidlokkmnaaGreatDoor
namespace Go.Proofs.YtdlhaidlokkmnaaGreatDoor
open Go.RowKit Go.ChangeShapes Go.WideShapes Go.ChangeAt
theorem Tryz.flatCellG : flat Tryz.prog 4 97 = some [5, 5, 2, 42, 42, 9] := by kernel_rfl
section
variable {H : Type} {enc : TypeId × Value → H} {w : World} {base : Nat} {spare : Nat → Bool} {held : Bool} {r : Reach} {base2 : Nat} {v : Value} {d : DataW H} {ps : List MemPlace}
theorem openC_list {n : Nat} {cs : List Value} {x : DataW H × List MemPlace} (h : DataW.trod enc Tryz.prog w base spare held n 97 cs = some x) :
    ∃ (k ty m : Int) (a b : Nat) (s : ByteArray), cs = [.int .u8 k, .int .u8 ty, .int .i64 m, .int .u64 a, .int .u64 b, .string s] ∧ (0 ≤ k ∧ k < 256) ∧ (0 ≤ ty ∧ ty < 256) ∧ (-9223372036854775808 ≤ m ∧ m < 9223372036854775808) ∧ a < 2 ^ 64 ∧ b < 2 ^ 64 ∧ s.size ≤ 9223372036854775807 := by
  have hl := flat_open 4 _ _ n cs x Tryz.flatCellG h
  match cs, hl with
  | [c0, c1, c2, c3, c4, c5], ⟨l0, l1, l2, l3, l4, l5, _⟩ =>
    obtain ⟨k, rfl, h0⟩ := l0.int Tryz.underlying5
    obtain ⟨ty, rfl, h1⟩ := l1.int Tryz.underlying5
    obtain ⟨m, rfl, h2⟩ := l2.int Tryz.underlying2
    obtain ⟨a, rfl, h3⟩ := l3.int Tryz.underlying42
    obtain ⟨b, rfl, h4⟩ := l4.int Tryz.underlying42
    obtain ⟨s, rfl, h5⟩ := l5.string Tryz.underlying9
    obtain ⟨a, rfl⟩ := Int.eq_ofNat_of_zero_le (wfG_u64 h3).1
    obtain ⟨b, rfl⟩ := Int.eq_ofNat_of_zero_le (wfG_u64 h4).1
    exact ⟨k, ty, m, a, b, s, rfl, wfG_u8 h0, wfG_u8 h1, wfG_i64 h2, by have := (wfG_u64 h3).2; omega, by have := (wfG_u64 h4).2; omega, h5⟩
end
end Go.Proofs.YtdlhaidlokkmnaaGreatDoor
namespace Go.Proofs.YtdlhaidlokkmnaaGreatDoor
open Go.RowKit Go.ChangeShapes Go.WideShapes Go.ChangeAt
theorem Tryz.flatColG : flat Tryz.prog 4 99 = some [9, 5, 4] := by kernel_rfl
theorem Tryz.flatRelG : flat Tryz.prog 4 55 = some [41, 41, 9, 5, 53] := by kernel_rfl
theorem Tryz.cellsColG : Tryz.prog.cellsOf 99 = 3 := by kernel_rfl
end Go.Proofs.YtdlhaidlokkmnaaGreatDoor
namespace Go.Proofs.YtdlhaidlokkmnaaGreatDoor
open Go.RowKit Go.ChangeShapes Go.WideShapes Go.ChangeAt
theorem Tryz.cellsCellG : Tryz.prog.cellsOf 97 = 6 := by kernel_rfl
structure K.tw (c : K) : Prop extends K.wk c where
  n : -9223372036854775808 ≤ c.v.n ∧ c.v.n < 9223372036854775808
  x : c.v.x < 2 ^ 64
  y : c.v.y < 2 ^ 64
section
variable {H : Type} {enc : TypeId × Value → H} {w : World} {base : Nat} {spare : Nat → Bool} {held : Bool} {r : Reach} {base2 : Nat} {v : Value} {d : DataW H} {ps : List MemPlace}
end
end Go.Proofs.YtdlhaidlokkmnaaGreatDoor
namespace Go.Proofs.YtdlhaidlokkmnaaGreatDoor
open Go.RowKit
structure Ev.tw (e : Ev) : Prop where
  b : ∀ c ∈ e.b, c.tw
  a : ∀ c ∈ e.a, c.tw
  r : ∀ r ∈ e.rs, r.u32
  at_ : (⟨e.ao, e.av⟩ : Rf).u32
theorem cellW_len (c : K) (hn : -9223372036854775808 ≤ c.v.n ∧ c.v.n ≤ 9223372036854775807) : (cellW c).length ≤ 3010 := by
  have h := spellL_len c.v.ty c.v.n c.v.x c.v.y c.v.s hn
  unfold cellW
  split
  · simp
  · split
    · simp
    · rw [List.length_cons, List.length_append, octs_len]; omega
theorem cellsW_len : ∀ (l : List K), (∀ c ∈ l, -9223372036854775808 ≤ c.v.n ∧ c.v.n ≤ 9223372036854775807) → (cellsW l).length ≤ 3010 * l.length
  | [], _ => by simp [cellsW]
  | c :: l, h => by
    have h1 := cellW_len c (h c (List.mem_cons_self ..))
    have h2 := cellsW_len l (fun d hd => h d (List.mem_cons_of_mem _ hd))
    unfold cellsW
    rw [List.length_append, List.length_cons]
    omega
theorem cellsW_take {l : List K} {k : Nat} (h : k < l.length) : cellsW (l.take (k + 1)) = cellsW (l.take k) ++ cellW l[k] := by
  rw [List.take_succ_eq_append_getElem h, cellsW_snoc]
theorem wimage_any (g : Nat) (q : Option Nat) (l : List Int) (letter : Int) (ls : List K) (a : Option Addr) (c : Nat) (W0 w : World) (h : WB w g q l) (he : Ext W0 w) (hg : W0.heap.size ≤ g) (hlen : l.length ≤ 600000000) (hl : Sl W0 (.slice a ls.length c) 5 (ls.map K.pc)) (hn : ls.length ≤ 1000)
    (hb : ∀ c ∈ ls, -9223372036854775808 ≤ c.v.n ∧ c.v.n ≤ 9223372036854775807) (hs : ∀ c ∈ ls, c.v.s.size ≤ 9223372036854775807) (ht : Tab W0) :
    Calls Tryz.prog 69 #[.pointer (some ⟨g, 0, none⟩), .int .u8 letter, .slice a ls.length c] w (WQ g q (l ++ imgW letter ls) w) := by
  have HL := Hm hl
  have HT := Hm ht
  have HNB := Hm hb
  have HSB := Hm hs
  have HEE := Hm (fun q' W (k : Wr w W g q q') => Wr.ext he h hg k)
  have HGL := Hm h.lt
  obtain ⟨v, hb1, ho, rfl⟩ := h
  obtain ⟨va, vc, rfl⟩ := ho.shape
  have HB1 := Hm (hb1.alloc (.cells #[.int .u8 letter] 5))
  have HO1 := Hm (ho.alloc (.cells #[.int .u8 letter] 5))
  have c0 := hb1.cell0
  have cf := hb1.frozen
  have z0 := hb1.lt
  obtain ⟨lv, hlv⟩ : ∃ L, L = l.length := ⟨_, rfl⟩
  rw [← hlv] at HB1 HO1 c0 HEE ⊢
  clear hb1 ho hl ht hb hs he
  have hlen2 : lv ≤ 600000000 := by omega
  have HLV := Hm hlv
  clear hlv
  have w1 := u64_small (n := (ls.length : Int)) (by omega) (by omega)
  go_enter Tryz.func69, Tryz.ntmps69
  go_upto_region 1 with (at_builtin; refine wpList_app_b rfl _ _ rfl (g + 1) (.slice va lv vc) l rfl HO1.out (.slice (some ⟨w.heap.size, 0, none⟩) 1 1) [letter] rfl (NB.one w letter) ?c1 ?c2 ?_)
  case c1 => simp only [List.length_cons, List.length_nil]; omega
  case c2 => have := HGL.out; simp; omega
  intro v4 w4 ho4 hg4 ha4
  have HP := Hm (WB.put HB1.out HO1.out ho4 hg4 (ha4.imp (fun e => e) (fun ⟨b, e, hb⟩ => ⟨b, e, by simp; omega⟩)))
  have HB4 := Hm (HB1.out.kp (Kp.of_grown hg4) (fun e => by have := (owns_lt3 HO1.out e).1; omega))
  obtain ⟨a4, c4, rfl⟩ := ho4.shape
  obtain ⟨ln, hln⟩ : ∃ L, L = (l ++ [letter]).length := ⟨_, rfl⟩
  rw [← hln] at HP ⊢
  clear c0 cf z0 ho4 hg4 ha4 hln
  have gw := HB4.out.cell0
  have gwf := HB4.out.frozen
  have zw := HB4.out.lt
  have HR4 := Hm (HP.out.2.pre ((Ext.refl w).alloc (.cells #[.int .u8 letter] 5)))
  go_upto_region 2 with (go_at_call 37; refine (number_any g _ (l ++ [letter]) ls.length 1 _ HP.out.1 (by rw [List.length_append, List.length_singleton]; omega) (by omega) (by omega)).mono ?_; rintro e w6 ⟨rfl, q6, hw6, hr6⟩; have HW6 := Hm hw6; have HR6 := Hm (HR4.out.trans hr6); clear hw6 hr6 gw gwf zw)
  clear HP HR4 HB4
  go_wp2
  go_loopg [25] ls.length (fun y i wr => ∃ (k : Nat) (q' : Option Nat), y + k = ls.length ∧ i = .int .i64 k ∧ Hid (WB wr g q' (l ++ [letter] ++ octs ls.length 1 ++ cellsW (ls.take k))) ∧ Hid (Wr w wr g (Value.slice va lv vc).ownBlock q'))
  case atStart => exact ⟨0, q6, rfl, rfl, Hm (by rw [List.take_zero]; exact (List.append_nil _).symm ▸ HW6.out), HR6⟩
  case round =>
    obtain ⟨k, q', hk, rfl, hW, hR⟩ := hrel
    by_cases hlt : k < ls.length
    · obtain ⟨b, o, rfl, hb2, hx2⟩ := HL.out.at_ (i := k) (by simpa using hlt)
      have HE := Hm (HEE.out _ _ hR.out)
      obtain ⟨f0, f1, f2, f3, f4⟩ := K.pcAt hlt hx2 hb2 HE.out
      have hbw : b < wr.heap.size := Nat.lt_of_lt_of_le hb2 HE.out.size
      have HCT := Hm (cellsW_take hlt)
      have HCL := Hm (cellsW_len (ls.take k) (fun c hc => HNB.out c (List.mem_of_mem_take hc)))
      have HNC := Hm (HNB.out _ (List.getElem_mem hlt))
      have HSC := Hm (HSB.out _ (List.getElem_mem hlt))
      obtain ⟨x, hx⟩ : ∃ x, x = ls[k]'hlt := ⟨_, rfl⟩
      rw [← hx] at f0 f1 f2 f3 f4 HCT HNC HSC
      clear hx hx2 hb2
      have HLT := Hm hlt
      have i1 : (k : Int) < (ls.length : Int) := by omega
      have HWA := Hm (fun W (h : Ext wr W) => wcell_any g q' (l ++ [letter] ++ octs ls.length 1 ++ cellsW (ls.take k)) x W (hW.out.ext h) (by
        have h1 := HCL.out
        rw [List.length_take] at h1
        have h2 : 3010 * min k ls.length ≤ 3010 * 1000 := Nat.mul_le_mul_left _ (by omega)
        have h3 := HLV.out
        simp only [List.length_append, List.length_singleton, octs_len]
        omega) HNC.out HSC.out (HT.out.ext (HE.out.trans h)))
      go_wp2_with (go_at_call 101; refine (HWA.out _ (by exact eX)).mono ?_; rintro e w8 ⟨rfl, q8, hw8, hr8⟩; have HW8 := Hm hw8; have HR8 := Hm (hR.out.trans (hr8.pre (by exact eX))); clear hw8 hr8)
      go_roundg (ls.length - (k + 1))
      case measure => have := HLT.out; omega
      case rel => exact ⟨k + 1, q8, Nat.sub_add_cancel HLT.out, by go_num, Hm (by rw [HCT.out, ← List.append_assoc]; exact HW8.out), HR8⟩
    · obtain rfl : k = ls.length := by omega
      rw [List.take_length] at hW
      go_wp2
      go_end0
      refine ⟨rfl, q', ?_, hR.out⟩
      have h9 := hW.out
      unfold imgW
      simpa using h9
end Go.Proofs.YtdlhaidlokkmnaaGreatDoor
