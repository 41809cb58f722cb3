/-
Opening any arguments by their types (structs and arrays laid flat; slices), and closing a law's row: true, and all reads as it did.
-/
import Derived.Test.YthdjinicmnhgpaaDoorBase
import Derived.ProofKit
import Derived.OpenShut
import Derived.Deep.Slices
namespace Go.Proofs.YthdjinicmnhgpaaDoor
open Go.RowKit Go.ChangeShapes Go.WideShapes Go.ChangeAt

section
variable {H : Type} {enc : TypeId × Value → H} {P : Program} {w : World} {base : Nat} {spare : Nat → Bool} {held : Bool}

/-- A cell of some type. -/
def Lf (enc : TypeId × Value → H) (P : Program) (w : World) (base : Nat) (spare : Nat → Bool) (held : Bool) (t : TypeId) (c : Value) : Prop := ∃ n x, DataW.trod enc P w base spare held n t [c] = some x

def Lfs (enc : TypeId × Value → H) (P : Program) (w : World) (base : Nat) (spare : Nat → Bool) (held : Bool) : List TypeId → List Value → Prop
  | [], [] => True
  | t :: ts, c :: cs => Lf enc P w base spare held t c ∧ Lfs enc P w base spare held ts cs
  | _, _ => False

theorem Lfs.append : ∀ (ts us : List TypeId) (cs : List Value), Lfs enc P w base spare held ts (cs.take ts.length) → Lfs enc P w base spare held us (cs.drop ts.length) → Lfs enc P w base spare held (ts ++ us) cs
  | [], us, cs, _, h => by simpa using h
  | t :: ts, us, [], h, _ => by simp [Lfs] at h
  | t :: ts, us, c :: cs, h, h' => by
    simp only [List.length_cons, List.take_succ_cons, Lfs] at h
    exact ⟨h.1, Lfs.append ts us cs h.2 (by simpa using h')⟩

def offs (P : Program) : Nat → List Field → List (List TypeId) → Bool
  | _, [], [] => true
  | o, f :: fs, l :: ls => f.offset == o && P.cellsOf f.type == l.length && offs P (o + l.length) fs ls
  | _, _, _ => false

/-- The types of a type's cells. -/
def flat (P : Program) : Nat → TypeId → Option (List TypeId)
  | 0, _ => none
  | k + 1, t =>
    match P.underlying t with
    | some (.struct fs) => (fs.toList.mapM fun f => flat P k f.type).bind fun ls => if offs P 0 fs.toList ls && P.cellsOf t == ls.flatten.length then some ls.flatten else none
    | some (.array n e) => (flat P k e).bind fun l => if P.cellsOf e == l.length && P.cellsOf t == n * l.length then some (List.replicate n l).flatten else none
    | _ => some [t]

theorem trod_single {n : Nat} {t : TypeId} {cs : List Value} {x : DataW H × List MemPlace} (h : DataW.trod enc P w base spare held n t cs = some x)
    (h1 : ∀ fs, P.underlying t ≠ some (.struct fs)) (h2 : ∀ n e, P.underlying t ≠ some (.array n e)) : ∃ c, cs = [c] := by
  cases n with
  | zero => simp [DataW.trod] at h
  | succ n =>
    unfold DataW.trod at h
    split at h
    all_goals first
      | exact ⟨_, rfl⟩
      | (rename_i h3; exact absurd h3 (h1 _))
      | (rename_i h3; exact absurd h3 (h2 _ _))
      | simp at h

theorem offs_open (k : Nat) (ih : ∀ (t : TypeId) (ts : List TypeId) (n : Nat) (cs : List Value) (x : DataW H × List MemPlace), flat P k t = some ts → DataW.trod enc P w base spare held n t cs = some x → Lfs enc P w base spare held ts cs)
    (n : Nat) (cs : List Value) : ∀ (fs : List Field) (ls : List (List TypeId)) (o : Nat), offs P o fs ls = true → (fs.mapM fun f => flat P k f.type) = some ls →
    cs.length = o + ls.flatten.length →
    (∀ f ∈ fs, ∃ y, DataW.trod enc P w base spare held n f.type ((cs.drop f.offset).take (P.cellsOf f.type)) = some y) → Lfs enc P w base spare held ls.flatten (cs.drop o) := by
  intro fs
  induction fs with
  | nil =>
    intro ls o ho hm hl _
    cases ls with
    | nil => simp at hl; rw [List.drop_eq_nil_of_le (by omega)]; trivial
    | cons l ls => simp [offs] at ho
  | cons f fs ih2 =>
    intro ls o ho hm hl hf
    cases ls with
    | nil => simp [offs] at ho
    | cons l ls =>
      simp only [offs, Bool.and_eq_true, beq_iff_eq] at ho
      obtain ⟨⟨ho1, ho2⟩, ho3⟩ := ho
      simp only [List.mapM_cons, Option.bind_eq_bind, Option.bind_eq_some_iff, Option.pure_def, Option.some.injEq, List.cons.injEq] at hm
      obtain ⟨l', h1, ls', h2, rfl, rfl⟩ := hm
      obtain ⟨y, hy⟩ := hf f (by simp)
      rw [ho1, ho2] at hy
      have a1 := ih f.type l' n _ y h1 hy
      simp only [List.flatten_cons, List.length_append] at hl
      have a2 := ih2 ls' (o + l'.length) ho3 h2 (by omega) (fun g hg => hf g (by simp [hg]))
      rw [List.flatten_cons]
      exact Lfs.append l' ls'.flatten _ a1 (by rw [List.drop_drop]; exact a2)

theorem arr_open (l : List TypeId) (e : TypeId) (n : Nat) (he : P.cellsOf e = l.length) (h1 : ∀ cs x, DataW.trod enc P w base spare held n e cs = some x → Lfs enc P w base spare held l cs) (cs : List Value) :
    ∀ (m i : Nat), cs.length = (i + m) * l.length → (∀ j, i ≤ j → j < i + m → ∃ y, DataW.trod enc P w base spare held n e ((cs.drop (j * P.cellsOf e)).take (P.cellsOf e)) = some y) →
    Lfs enc P w base spare held (List.replicate m l).flatten (cs.drop (i * l.length)) := by
  intro m
  induction m with
  | zero => intro i hl _; rw [List.drop_eq_nil_of_le (by simp at hl; omega)]; simp [Lfs]
  | succ m ih =>
    intro i hl hf
    obtain ⟨y, hy⟩ := hf i (by omega) (by omega)
    rw [he] at hy
    have a1 := h1 _ y hy
    have a2 := ih (i + 1) (by rw [hl]; congr 1; omega) (fun j h1 h2 => hf j (by omega) (by omega))
    rw [List.replicate_succ, List.flatten_cons]
    refine Lfs.append l _ _ a1 ?_
    rw [List.drop_drop, ← Nat.succ_mul]
    exact a2

theorem flat_open (k : Nat) : ∀ (t : TypeId) (ts : List TypeId) (n : Nat) (cs : List Value) (x : DataW H × List MemPlace), flat P k t = some ts → DataW.trod enc P w base spare held n t cs = some x → Lfs enc P w base spare held ts cs := by
  induction k with
  | zero => intro t ts n cs x h; simp [flat] at h
  | succ k ih =>
    intro t ts n cs x h hx
    unfold flat at h
    split at h
    · rename_i fs hu
      obtain ⟨xs, m, _, rfl, hlen, hxl, hf⟩ := DataW.trod_struct hu hx
      simp only [Option.bind_eq_some_iff] at h
      obtain ⟨ls, hm, h⟩ := h
      split at h
      · rename_i hc
        rw [Bool.and_eq_true, beq_iff_eq] at hc
        cases h
        have := offs_open k ih m cs fs.toList ls 0 hc.1 hm (by rw [hlen, hc.2, Nat.zero_add]) (fun f hfm => by
          obtain ⟨i, hi, hif⟩ := List.mem_iff_getElem.1 hfm
          have hi' : i < fs.size := by simpa using hi
          have g : fs[i]? = some f := by rw [← hif]; simp [hi']
          have := hf i f g
          rw [List.getElem?_eq_getElem (by omega)] at this
          exact ⟨_, this⟩)
        simpa using this
      · cases h
    · rename_i m e hu
      obtain ⟨xs, q, _, rfl, hlen, hxl, hf⟩ := DataW.trod_array hu hx
      simp only [Option.bind_eq_some_iff] at h
      obtain ⟨l, hl, h⟩ := h
      split at h
      · rename_i hc
        rw [Bool.and_eq_true, beq_iff_eq, beq_iff_eq] at hc
        cases h
        have := arr_open (enc := enc) (P := P) (w := w) (base := base) (spare := spare) (held := held) l e q hc.1 (fun cs y hy => ih e l q cs y hl hy) cs m 0 (by rw [hlen, hc.2, Nat.zero_add]) (fun j _ hj => by
          have := hf j (by omega)
          rw [List.getElem?_eq_getElem (by omega)] at this
          exact ⟨_, this⟩)
        simpa using this
      · cases h
    · rename_i h1 h2
      cases h
      obtain ⟨c, rfl⟩ := trod_single hx (fun fs e => h1 fs e) (fun n e he => h2 n e he)
      exact ⟨⟨n, x, hx⟩, trivial⟩

theorem Lf.int {t : TypeId} {c : Value} {k : IntKind} (h : Lf enc P w base spare held t c) (ht : P.underlying t = some (.int k)) : ∃ n, c = .int k n ∧ (Lit.int k n).wf = true := by
  obtain ⟨m, x, h⟩ := h
  obtain ⟨n, h1, _, h3⟩ := DataW.trod_int ht h
  cases h1
  exact ⟨n, rfl, h3⟩
theorem Lf.string {t : TypeId} {c : Value} (h : Lf enc P w base spare held t c) (ht : P.underlying t = some .string) : ∃ s : ByteArray, c = .string s ∧ s.size ≤ 9223372036854775807 := by
  obtain ⟨m, x, h⟩ := h
  obtain ⟨n, h1, _, h3⟩ := DataW.trod_string ht h
  cases h1
  exact ⟨n, rfl, h3⟩
theorem Lf.bool {t : TypeId} {c : Value} (h : Lf enc P w base spare held t c) (ht : P.underlying t = some .bool) : ∃ b : Bool, c = .bool b := by
  obtain ⟨m, x, h⟩ := h
  obtain ⟨n, h1, _⟩ := DataW.trod_bool ht h
  cases h1
  exact ⟨n, rfl⟩

/-- A slice, opened: its elements' cells, and what each reads as. -/
theorem trod_sl {T E : TypeId} {k n : Nat} {cs : List Value} {x : DataW H × List MemPlace} (ht : P.underlying T = some (.slice E)) (hk : P.cellsOf E = k) (hk0 : 0 < k) (h : DataW.trod enc P w base spare held n T cs = some x) :
    ∃ v xss, cs = [v] ∧ Sl w v k xss ∧ xss.length ≤ 9223372036854775807 ∧ ∀ xs ∈ xss, xs.length = k ∧ ∃ n x, DataW.trod enc P w base spare held n E xs = some x := by
  rcases Go.Deep.open_slice ht h with ⟨rfl, _⟩ | ⟨a, len, cap, m, q, D, Pl, rfl, hb, hl, hm, hmm, _, hx⟩
  · exact ⟨_, [], rfl, ⟨none, 0, rfl, .inl rfl⟩, by simp, by simp⟩
  · have hlm : len ≤ m := by rw [hmm]; split <;> omega
    have hall : ∀ i, i < len → ∃ cs', w.cells? base (a.add (i * k)) k = some cs' ∧ DataW.trod enc P w base spare held q E cs' = some (D i, Pl i) := fun i hi => by
      have := hx i (by omega); rwa [hk] at this
    obtain ⟨C, hC⟩ := Go.Deep.choose_lt hall
    have hcl : cap ≤ 9223372036854775807 := hm
    refine ⟨_, (List.range len).map C, rfl, ?_, by simp; omega, ?_⟩
    · refine ⟨some a, cap, by simp, ?_⟩
      by_cases h0 : len = 0
      · subst h0; exact .inl rfl
      · right
        have hc0 := (World.cells?_some (hC 0 (by omega)).1)
        have e0 : (a.add (0 * k)).add 0 = a := by unfold Addr.add; simp
        have hcell : (w.cell? a).isSome = true := by
          have := hc0.2.2 0 hk0
          rw [e0] at this
          rw [this, List.getElem?_eq_getElem (by omega)]; rfl
        have hsp : a.spot = none := by
          unfold World.cell? at hcell
          split at hcell
          · split at hcell
            · simp at hcell
            · rename_i hs; simpa using hs
          · simp at hcell
        have hlt : a.block < w.heap.size := by
          unfold World.cell? at hcell
          rcases Nat.lt_or_ge a.block w.heap.size with h1 | h1
          · exact h1
          · rw [Array.getElem?_eq_none h1] at hcell; simp at hcell
        refine ⟨a.block, a.off, by cases a; simp at hsp; subst hsp; rfl, hlt, ?_⟩
        intro i hi j hj
        simp only [List.length_map, List.length_range] at hi
        have h2 := (World.cells?_some (hC i hi).1).2.2 j hj
        rw [Go.Deep.add_add] at h2
        have e : a.add (i * k + j) = ⟨a.block, a.off + i * k + j, none⟩ := by
          unfold Addr.add
          split
          · rename_i hz
            have h3 : i * k = 0 := by omega
            have h4 : j = 0 := by omega
            cases a; simp at hsp; subst hsp; simp [h3, h4]
          · cases a; simp at hsp; subst hsp; simp
        rw [e] at h2
        rw [h2]
        simp [hi]
    · intro xs hxs
      simp only [List.mem_map, List.mem_range] at hxs
      obtain ⟨i, hi, rfl⟩ := hxs
      exact ⟨(World.cells?_some (hC i hi).1).2.1, _, _, (hC i hi).2⟩

theorem exists_map {α β : Type} {f : α → β} {p : α → Prop} : ∀ (l : List β), (∀ y ∈ l, ∃ x, y = f x ∧ p x) → ∃ l' : List α, l = l'.map f ∧ ∀ x ∈ l', p x
  | [], _ => ⟨[], rfl, by simp⟩
  | y :: l, h => by
    obtain ⟨x, hx, hp⟩ := h y (by simp)
    obtain ⟨l', hl, hl'⟩ := exists_map l (fun z hz => h z (by simp [hz]))
    exact ⟨x :: l', by rw [hx, hl]; rfl, by intro z hz; rcases List.mem_cons.1 hz with rfl | hz; exact hp; exact hl' z hz⟩

/-- All arguments read as they did. -/
theorem trodAll_stays {W W' : World} (hl : laidOutB P = true) (hE : Ext W W') : ∀ (ts : List TypeId) (vs : List Value) (ds : List (DataW H)) (ps : List MemPlace), (∀ t ∈ ts, P.readableRec t = true ∧ t < P.types.size) →
    DataW.TrodAll enc P W 0 (fun _ => true) true ts vs ds ps → (∀ x ∈ ps, x.block < W.heap.size) → DataW.TrodAll enc P W' 0 (fun b => decide (b < W.heap.size)) true ts vs ds ps
  | [], [], [], ps, _, h, _ => h
  | t :: ts, v :: vs, d :: ds, ps, hr, h, hlt => by
    obtain ⟨p, q, h1, h2, rfl⟩ := h
    refine ⟨p, q, Below.trod hl (hr t (by simp)).1 (hr t (by simp)).2 h1 hE (fun x hx => hlt x (by simp [hx])), ?_, rfl⟩
    exact trodAll_stays hl hE ts vs ds q (fun u hu => hr u (by simp [hu])) h2 (fun x hx => hlt x (by simp [hx]))
  | [], _ :: _, _, _, _, h, _ => by simp [DataW.TrodAll] at h
  | [], [], _ :: _, _, _, h, _ => by simp [DataW.TrodAll] at h
  | _ :: _, [], _, _, _, h, _ => by simp [DataW.TrodAll] at h
  | _ :: _, _ :: _, [], _, _, h, _ => by simp [DataW.TrodAll] at h

/-- A law's row: it answered true; what was there is as it was. -/
theorem post_law {f : Func} {s : ChangeSpec} {apart : Bool} {W W' : World} {args : Array Value} {ds gs : List (DataW H)} {before : List MemPlace} {tb : TypeId}
    (hl : laidOutB P = true) (hb : P.underlying tb = some .bool) (hrt : f.resultTypes = #[tb]) (hr : f.params.toList.all (fun t => P.readableRec t && decide (t < P.types.size)) = true) (hv : s.vars = [])
    (hW : DataW.Whole enc P f.params.toList s.vars apart W args.toList ds gs before)
    (h1 : (s.fn H (ds ++ gs)).results = [.lit (.bool true)]) (h2 : (s.fn H (ds ++ gs)).args = ds) (h3 : (s.fn H (ds ++ gs)).vars = []) (hE : Ext W W') :
    s.post enc P f apart true false false W args (.bool true) W' := by
  have hW' := hW
  have hlt := hW.lt
  obtain ⟨p, q, hA, hV, rfl, _, _⟩ := hW
  refine ⟨ds, gs, p ++ q, [], p, [], hW', ?_, ?_, ?_, Below.frame hE _, fun h => by cases h⟩
  · rw [h1, hrt]
    exact trodAll_mk1 (shut_bool hb true)
  · rw [h2]
    refine trodAll_stays hl hE _ _ _ _ (fun t ht => ?_) hA (fun x hx => by simpa using hlt x (by simp [hx]))
    have := List.all_eq_true.1 hr t ht
    simpa using this
  · rw [hv, h3]; rfl
end

end Go.Proofs.YthdjinicmnhgpaaDoor
