/- What can be read as data, read by its kind: numbers, texts, slices and structs of them, however nested. -/
import Derived.Test.YtpaphcoloogdlaaArg
import Derived.Deep.Slices
namespace Go.Proofs.Ytpaphcoloogdlaa.Open
open Go.RowKit Go.ChangeShapes Go.WideShapes Go.ChangeAt Go.Proofs.YtpaphcoloogdlaaW.PrintWords
set_option linter.unusedVariables false
set_option linter.unusedSimpArgs false
/-- Whatever can be read at a type is of a kind. -/
structure Opens {α : Type} (P : Program) (T : TypeId) (d : Kd α) (wf : α → Prop) : Prop where
  cells : P.cellsOf T = d.sz
  opens : ∀ {H : Type} {enc : TypeId × Value → H} {w : World} {base : Nat} {spare : Nat → Bool} {held : Bool} {fuel : Nat} {cs : List Value} {x : DataW H × List MemPlace},
    DataW.trod enc P w base spare held fuel T cs = some x → ∃ a, d.K w a cs ∧ wf a
theorem opens_int {P : Program} {T : TypeId} {k : IntKind} (hu : P.underlying T = some (.int k)) (hc : P.cellsOf T = 1) : Opens P T (Kd.int k) (fun n => (Lit.int k n).wf = true) :=
  ⟨hc, fun h => by
    obtain ⟨n, rfl, _, hw⟩ := DataW.trod_int hu h
    exact ⟨n, rfl, hw⟩⟩
theorem opens_bool {P : Program} {T : TypeId} (hu : P.underlying T = some .bool) (hc : P.cellsOf T = 1) : Opens P T Kd.bool (fun _ => True) :=
  ⟨hc, fun h => by
    obtain ⟨n, rfl, _⟩ := DataW.trod_bool hu h
    exact ⟨n, rfl, trivial⟩⟩
theorem opens_string {P : Program} {T : TypeId} (hu : P.underlying T = some .string) (hc : P.cellsOf T = 1) : Opens P T Kd.string (fun s => s.size ≤ maxLen) :=
  ⟨hc, fun h => by
    obtain ⟨n, rfl, _, hw⟩ := DataW.trod_string hu h
    exact ⟨n, rfl, hw⟩⟩
theorem exists_list {α : Type} (n : Nat) (p : Nat → α → Prop) (h : ∀ i, i < n → ∃ x, p i x) : ∃ xs : List α, xs.length = n ∧ ∀ i x, xs[i]? = some x → p i x := by
  induction n with
  | zero => exact ⟨[], rfl, fun i x h => by simp at h⟩
  | succ n ih =>
    obtain ⟨xs, hl, hx⟩ := ih (fun i hi => h i (by omega))
    obtain ⟨y, hy⟩ := h n (by omega)
    refine ⟨xs ++ [y], by simp [hl], fun i x hi => ?_⟩
    rcases Nat.lt_or_ge i xs.length with h1 | h1
    · rw [List.getElem?_append_left h1] at hi
      exact hx i x hi
    · rw [List.getElem?_append_right h1] at hi
      have hlt := (List.getElem?_eq_some_iff.1 hi).1
      have : i - xs.length = 0 := by simp at hlt; omega
      rw [this] at hi
      have : i = n := by omega
      subst this
      simp at hi
      subst hi
      exact hy
theorem opens_slice {α : Type} {P : Program} {T e : TypeId} {d : Kd α} {wf : α → Prop} (hu : P.underlying T = some (.slice e)) (hc : P.cellsOf T = 1) (he : Opens P e d wf) : Opens P T (Kd.slice e d) (fun xs => ∀ x ∈ xs, wf x) :=
  ⟨hc, fun {H enc w base spare held fuel cs x} h => by
    rcases Go.Deep.open_slice hu h with ⟨rfl, _⟩ | ⟨a, len, cap, m, n, D, Pl, rfl, _, hl, hm, hmm, _, hx⟩
    · exact ⟨[], ⟨none, 0, rfl, Nat.le_refl _, Kd.C_nil _ _⟩, fun x hx => by simp at hx⟩
    · have hlm : len ≤ m := by rw [hmm]; split <;> omega
      obtain ⟨xs, hxl, hxs⟩ := exists_list len (fun i (y : α) => wf y ∧ ∃ cs', cs'.length = d.sz ∧ d.K w y cs' ∧ ∀ j u, cs'[j]? = some u → w.cell? (a.add (i * d.sz + j)) = some u) (fun i hi => by
        obtain ⟨cs', h1, h2⟩ := hx i (by omega)
        obtain ⟨_, hlen, hcell⟩ := World.cells?_some h1
        obtain ⟨y, hK, hw⟩ := he.opens h2
        rw [he.cells] at hlen hcell
        refine ⟨y, hw, cs', hlen, hK, fun j u hj => ?_⟩
        have hjl : j < d.sz := by have := (List.getElem?_eq_some_iff.1 hj).1; omega
        have := hcell j hjl
        rw [Go.Deep.add_add, hj] at this
        exact this)
      subst hxl
      refine ⟨xs, ⟨some a, cap, rfl, hl, rfl, ?_, fun _ => ⟨a, rfl, fun j p hj => (hxs j p hj).2⟩⟩, fun y hy => ?_⟩
      · unfold maxLen at hm; omega
      · obtain ⟨i, hi⟩ := List.getElem?_of_mem hy
        exact (hxs i y hi).1⟩
/-- Fields that stand behind each other from a place on. -/
structure OpensF {α : Type} (P : Program) (fs : List Field) (o : Nat) (d : Kd α) (wf : α → Prop) : Prop where
  opens : ∀ {H : Type} {enc : TypeId × Value → H} {w : World} {base : Nat} {spare : Nat → Bool} {held : Bool} {n : Nat} {cs : List Value}, cs.length = o + d.sz →
    (∀ (i : Nat) (f : Field), fs[i]? = some f → ∃ x, DataW.trod enc P w base spare held n f.type ((cs.drop f.offset).take (P.cellsOf f.type)) = some x) → ∃ a, d.K w a (cs.drop o) ∧ wf a
theorem opensF_one {α : Type} {P : Program} {f : Field} {o : Nat} {d : Kd α} {wf : α → Prop} (ho : f.offset = o) (h : Opens P f.type d wf) : OpensF P [f] o d wf :=
  ⟨fun {H enc w base spare held n cs} hl hx => by
    obtain ⟨x, h1⟩ := hx 0 f rfl
    rw [ho, h.cells, List.take_of_length_le (by rw [List.length_drop]; omega)] at h1
    exact h.opens h1⟩
theorem opensF_cons {α β : Type} {P : Program} {f : Field} {fs : List Field} {o o' : Nat} {d : Kd α} {d' : Kd β} {wf : α → Prop} {wf' : β → Prop} (ho : f.offset = o) (h : Opens P f.type d wf) (he : o' = o + d.sz) (h' : OpensF P fs o' d' wf') :
    OpensF P (f :: fs) o (Kd.pair d d') (fun x => wf x.1 ∧ wf' x.2) :=
  ⟨fun {H enc w base spare held n cs} hl hx => by
    subst he
    have hs : (Kd.pair d d').sz = d.sz + d'.sz := rfl
    obtain ⟨x, h1⟩ := hx 0 f rfl
    rw [ho, h.cells] at h1
    obtain ⟨a, hK, hw⟩ := h.opens h1
    obtain ⟨b, hK', hw'⟩ := h'.opens (enc := enc) (w := w) (base := base) (spare := spare) (held := held) (n := n) (cs := cs) (by omega) (fun i g hg => hx (i + 1) g (by simpa using hg))
    refine ⟨(a, b), ⟨_, _, ?_, hK, hK'⟩, hw, hw'⟩
    rw [← List.drop_drop, List.take_append_drop]⟩
theorem opens_struct {α : Type} {P : Program} {T : TypeId} {fs : Array Field} {d : Kd α} {wf : α → Prop} (hu : P.underlying T = some (.struct fs)) (hc : P.cellsOf T = d.sz) (h : OpensF P fs.toList 0 d wf) : Opens P T d wf :=
  ⟨hc, fun {H enc w base spare held fuel cs x} hx => by
    obtain ⟨xs, n, _, _, hl, hxl, hf⟩ := DataW.trod_struct hu hx
    have := h.opens (enc := enc) (w := w) (base := base) (spare := spare) (held := held) (n := n) (cs := cs) (by omega) (fun i f hi => by
      have hi' : fs[i]? = some f := by simpa using hi
      have hlt : i < xs.length := by rw [hxl]; exact (Array.getElem?_eq_some_iff.1 hi').1
      exact ⟨xs[i], (hf i f hi').trans (List.getElem?_eq_getElem hlt)⟩)
    simpa using this⟩
theorem opens_iso {α β : Type} {P : Program} {T : TypeId} {d : Kd α} {wf : α → Prop} (f : β → α) (g : α → β) (hg : ∀ a, f (g a) = a) (h : Opens P T d wf) : Opens P T (Kd.iso d f) (fun b => wf (f b)) :=
  ⟨h.cells, fun hx => by
    obtain ⟨a, hK, hw⟩ := h.opens hx
    exact ⟨g a, by show d.K _ (f (g a)) _; rw [hg]; exact hK, by rw [hg]; exact hw⟩⟩
theorem Opens.imp {α : Type} {P : Program} {T : TypeId} {d : Kd α} {wf wf' : α → Prop} (h : Opens P T d wf) (hi : ∀ a, wf a → wf' a) : Opens P T d wf' :=
  ⟨h.cells, fun hx => by
    obtain ⟨a, hK, hw⟩ := h.opens hx
    exact ⟨a, hK, hi a hw⟩⟩
section
variable {H : Type} {enc : TypeId × Value → H} {P : Program} {W : World} {base b0 : Nat} {r : Reach} {spare : Nat → Bool} {held : Bool}
/-- An argument that is a slice. -/
theorem arg_slice {α : Type} {T e : TypeId} {d : Kd α} {wf : α → Prop} {v : Value} {x : DataW H} {p : List MemPlace} (hu : P.underlying T = some (.slice e)) (ho : Opens P T (Kd.slice e d) (fun xs => ∀ x ∈ xs, wf x))
    (hv : Value.okWide P W r b0 T v) (h : DataW.Trod enc P W base spare held T v x p) : ∃ (A : Option Addr) (c : Nat) (xs : List α), v = .slice A xs.length c ∧ xs.length ≤ c ∧ d.C W A xs.length xs ∧ ∀ x ∈ xs, wf x := by
  obtain ⟨a, len, cap, rfl⟩ := okWide_slice hu hv
  obtain ⟨fuel, hf⟩ := h
  obtain ⟨xs, ⟨A, c, he, hl, hC⟩, hw⟩ := ho.opens hf
  simp only [Value.cells, List.cons.injEq, Value.slice.injEq, and_true] at he
  exact ⟨A, c, xs, by rw [he.1, he.2.1, he.2.2], hl, hC, hw⟩
/-- An argument that is a struct. -/
theorem arg_struct {α : Type} {T : TypeId} {fs : Array Field} {d : Kd α} {wf : α → Prop} {v : Value} {x : DataW H} {p : List MemPlace} (hu : P.underlying T = some (.struct fs)) (ho : Opens P T d wf)
    (hv : Value.okWide P W r b0 T v) (h : DataW.Trod enc P W base spare held T v x p) : ∃ (cs : List Value) (a : α), v = .agg cs.toArray ∧ d.K W a cs ∧ wf a := by
  obtain ⟨cs, rfl, hsz⟩ := okWide_struct hu hv
  obtain ⟨fuel, hf⟩ := h
  obtain ⟨a, hK, hw⟩ := ho.opens hf
  exact ⟨cs.toList, a, by simp, by simpa [Value.cells] using hK, hw⟩
/-- An argument that is a text. -/
theorem arg_string {T : TypeId} {v : Value} {x : DataW H} {p : List MemPlace} (hu : P.underlying T = some .string) (h : DataW.Trod enc P W base spare held T v x p) (h1 : v.cells.toList = [v]) : ∃ s : ByteArray, v = .string s ∧ s.size ≤ maxLen := by
  obtain ⟨fuel, hf⟩ := h
  rw [h1] at hf
  obtain ⟨s, e, _, hw⟩ := DataW.trod_string hu hf
  injection e with e
  exact ⟨s, e, hw⟩
end
end Go.Proofs.Ytpaphcoloogdlaa.Open
