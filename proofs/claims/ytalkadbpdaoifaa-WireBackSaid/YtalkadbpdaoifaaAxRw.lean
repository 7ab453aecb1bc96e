/- What can be read as data, as values without addresses: numbers, truths, texts, slices, arrays and structs of them, however nested. -/
import Derived.Test.YtalkadbpdaoifaaMgC
import Derived.Deep.Slices
import Derived.OpenShut
import Derived.ChangeArms
import Derived.WideShapes
import Derived.Below
import Derived.WalkKit
import Derived.ProofKit
import Derived.ShutString
import Derived.ChangeOld
import Derived.Carry
import Derived.Lib.SmallJoins
namespace Go.Proofs.Ytalkadbpdaoifaa.AX
open Go Go.RowKit Go.ChangeShapes Go.WideShapes
set_option linter.unusedVariables false
set_option linter.unusedSimpArgs false
/-- All of a world's memory, held to stay. -/
def allH (w : World) : Imm := fun k => w.heap[k]?
theorem allH_cell {w : World} {a : Addr} {v : Value} (h : w.cell? a = some v) : (allH w).cell a = some v := by
  unfold World.cell? at h
  unfold Imm.cell allH
  exact h
/-- Cells that stand for values. -/
def RepC (H : Imm) (vs : List V) (cs : List Value) : Prop := cs.length = vs.length ∧ ∀ (i : Nat) (v : V) (c : Value), vs[i]? = some v → cs[i]? = some c → v.cell = true ∧ RepD H v c
theorem RepC.one {H : Imm} {v : V} {c : Value} (hv : v.cell = true) (h : RepD H v c) : RepC H [v] [c] := by
  refine ⟨rfl, fun i a b h1 h2 => ?_⟩
  rcases i with _ | i
  · simp at h1 h2; subst h1; subst h2; exact ⟨hv, h⟩
  · simp at h1
theorem RepC.app {H : Imm} {vs us : List V} {cs ds : List Value} (h : RepC H vs cs) (k : RepC H us ds) : RepC H (vs ++ us) (cs ++ ds) := by
  refine ⟨by simp [h.1, k.1], fun i a b h1 h2 => ?_⟩
  by_cases hi : i < vs.length
  · rw [List.getElem?_append_left hi] at h1
    rw [List.getElem?_append_left (by rw [h.1]; exact hi)] at h2
    exact h.2 i a b h1 h2
  · rw [List.getElem?_append_right (by omega)] at h1
    rw [List.getElem?_append_right (by rw [h.1]; omega), h.1] at h2
    exact k.2 _ a b h1 h2
theorem RepC.agg {H : Imm} {vs : List V} {cs : List Value} (h : RepC H vs cs) : RepD H (.agg vs) (.agg cs.toArray) :=
  .agg _ _ h.1 (fun i a v h1 h2 => (h.2 i a v h1 h2).2) fun a ha => by
    obtain ⟨i, hi⟩ := List.getElem?_of_mem ha
    have hlt : i < cs.length := by rw [h.1]; exact (List.getElem?_eq_some_iff.1 hi).1
    exact (h.2 i a _ hi (List.getElem?_eq_getElem hlt)).1
/-- Whatever can be read at a type is told by f of something. -/
structure OpensR {α : Type} (P : Program) (T : TypeId) (z : Nat) (f : α → List V) (wf : α → Prop) : Prop where
  cells : P.cellsOf T = z
  opens : ∀ {H : Type} {enc : TypeId × Value → H} {w : World} {base : Nat} {spare : Nat → Bool} {held : Bool} {fuel : Nat} {cs : List Value} {x : DataW H × List MemPlace},
    DataW.trod enc P w base spare held fuel T cs = some x → ∃ a, wf a ∧ (f a).length = z ∧ RepC (allH w) (f a) cs
theorem opensR_int {P : Program} {T : TypeId} {k : IntKind} (hu : P.underlying T = some (.int k)) (hc : P.cellsOf T = 1) : OpensR P T 1 (fun n => [V.int k n]) (fun n => (Lit.int k n).wf = true) :=
  ⟨hc, fun h => by
    obtain ⟨n, rfl, _, hw⟩ := DataW.trod_int hu h
    exact ⟨n, hw, rfl, .one rfl (.int _ _)⟩⟩
theorem opensR_bool {P : Program} {T : TypeId} (hu : P.underlying T = some .bool) (hc : P.cellsOf T = 1) : OpensR P T 1 (fun b => [V.bool b]) (fun _ => True) :=
  ⟨hc, fun h => by
    obtain ⟨n, rfl, _⟩ := DataW.trod_bool hu h
    exact ⟨n, trivial, rfl, .one rfl (.bool _)⟩⟩
theorem opensR_string {P : Program} {T : TypeId} (hu : P.underlying T = some .string) (hc : P.cellsOf T = 1) : OpensR P T 1 (fun s => [V.str s]) (fun s => s.size ≤ maxLen) :=
  ⟨hc, fun h => by
    obtain ⟨n, rfl, _, hw⟩ := DataW.trod_string hu h
    exact ⟨n, hw, rfl, .one rfl (.str _)⟩⟩
theorem exists_listR {α : Type} (n : Nat) (p : Nat → α → Prop) (h : ∀ i, i < n → ∃ x, p i x) : ∃ xs : List α, xs.length = n ∧ ∀ i x, xs[i]? = some x → p i x := by
  induction n with
  | zero => exact ⟨[], rfl, fun i x h => by simp at h⟩
  | succ n ih =>
    obtain ⟨xs, hl, hx⟩ := ih (fun i hi => h i (by omega))
    obtain ⟨y, hy⟩ := h n (by omega)
    refine ⟨xs ++ [y], by simp [hl], fun i x hi => ?_⟩
    rcases Nat.lt_or_ge i xs.length with h1 | h1
    · rw [List.getElem?_append_left h1] at hi
      exact hx i x hi
    · rw [List.getElem?_append_right h1] at hi
      have hlt := (List.getElem?_eq_some_iff.1 hi).1
      have : i - xs.length = 0 := by simp at hlt; omega
      rw [this] at hi
      have : i = n := by omega
      subst this
      simp at hi
      subst hi
      exact hy
theorem opensR_slice {α : Type} {P : Program} {T e : TypeId} {z : Nat} {f : α → List V} {wf : α → Prop} (hu : P.underlying T = some (.slice e)) (hc : P.cellsOf T = 1) (he : OpensR P e z f wf) :
    OpensR P T 1 (fun xs : List α => [V.sl (xs.map f)]) (fun xs : List α => xs.length ≤ maxLen ∧ ∀ x ∈ xs, wf x) :=
  ⟨hc, fun {H enc w base spare held fuel cs x} h => by
    rcases Go.Deep.open_slice hu h with ⟨rfl, _⟩ | ⟨a, len, cap, m, n, D, Pl, rfl, _, hl, hm, hmm, _, hx⟩
    · exact ⟨[], ⟨by simp, fun x hx => by simp at hx⟩, rfl, .one rfl .sl0⟩
    · have hlm : len ≤ m := by rw [hmm]; split <;> omega
      obtain ⟨xs, hxl, hxs⟩ := exists_listR len (fun i (y : α) => wf y ∧ (f y).length = z ∧ ∃ cs', RepC (allH w) (f y) cs' ∧ ∀ j u, cs'[j]? = some u → w.cell? (a.add (i * z + j)) = some u) (fun i hi => by
        obtain ⟨cs', h1, h2⟩ := hx i (by omega)
        obtain ⟨_, hlen, hcell⟩ := World.cells?_some h1
        obtain ⟨y, hw, hz, hK⟩ := he.opens h2
        rw [he.cells] at hlen hcell
        refine ⟨y, hw, hz, cs', hK, fun j u hj => ?_⟩
        have hjl : j < z := by have := (List.getElem?_eq_some_iff.1 hj).1; omega
        have := hcell j hjl
        rw [Go.Deep.add_add, hj] at this
        exact this)
      subst hxl
      have key : ∀ (i : Nat) (e : List V) (j : Nat) (b : V), (xs.map f)[i]? = some e → e[j]? = some b → ∃ c, w.cell? (a.add (i * z + j)) = some c ∧ b.cell = true ∧ RepD (allH w) b c := by
        intro i e j b h1 h2
        rw [List.getElem?_map] at h1
        obtain ⟨y, g1, rfl⟩ := Option.map_eq_some_iff.1 h1
        obtain ⟨hw, hz, cs', hC, hcell⟩ := hxs i y g1
        have hlt : j < cs'.length := by rw [hC.1]; exact (List.getElem?_eq_some_iff.1 h2).1
        obtain ⟨k1, k2⟩ := hC.2 j b _ h2 (List.getElem?_eq_getElem hlt)
        exact ⟨_, hcell j _ (List.getElem?_eq_getElem hlt), k1, k2⟩
      refine ⟨xs, ⟨by omega, fun y hy => ?_⟩, rfl, .one rfl ?_⟩
      · obtain ⟨i, hi⟩ := List.getElem?_of_mem hy
        exact (hxs i y hi).1
      · have hcast : xs.length = (xs.map f).length := by simp
        rw [hcast]
        refine .sl _ _ _ z (fun k => (w.cell? (a.add k)).getD undef) (by simpa using hl) hm (fun e he => ?_) (fun i e j b h1 h2 => ?_) (fun i e j b h1 h2 => ?_) (fun e he b hb => ?_)
        · obtain ⟨y, hy, rfl⟩ := List.mem_map.1 he
          obtain ⟨i, hi⟩ := List.getElem?_of_mem hy
          exact (hxs i y hi).2.1
        · obtain ⟨c, g1, g2, g3⟩ := key i e j b h1 h2
          rw [g1]; exact allH_cell g1
        · obtain ⟨c, g1, g2, g3⟩ := key i e j b h1 h2
          rw [g1]; exact g3
        · obtain ⟨i, hi⟩ := List.getElem?_of_mem he
          obtain ⟨j, hj⟩ := List.getElem?_of_mem hb
          obtain ⟨c, g1, g2, g3⟩ := key i e j b hi hj
          exact g2⟩
/-- Fields that stand behind each other from a place on. -/
structure OpensRF {α : Type} (P : Program) (fs : List Field) (o z : Nat) (f : α → List V) (wf : α → Prop) : Prop where
  opens : ∀ {H : Type} {enc : TypeId × Value → H} {w : World} {base : Nat} {spare : Nat → Bool} {held : Bool} {n : Nat} {cs : List Value}, cs.length = o + z →
    (∀ (i : Nat) (g : Field), fs[i]? = some g → ∃ x, DataW.trod enc P w base spare held n g.type ((cs.drop g.offset).take (P.cellsOf g.type)) = some x) → ∃ a, wf a ∧ (f a).length = z ∧ RepC (allH w) (f a) (cs.drop o)
theorem opensRF_one {α : Type} {P : Program} {g : Field} {o z : Nat} {f : α → List V} {wf : α → Prop} (ho : g.offset = o) (h : OpensR P g.type z f wf) : OpensRF P [g] o z f wf :=
  ⟨fun {H enc w base spare held n cs} hl hx => by
    obtain ⟨x, h1⟩ := hx 0 g rfl
    rw [ho, h.cells, List.take_of_length_le (by rw [List.length_drop]; omega)] at h1
    exact h.opens h1⟩
theorem opensRF_cons {α β : Type} {P : Program} {g : Field} {fs : List Field} {o o' z z' : Nat} {f : α → List V} {f' : β → List V} {wf : α → Prop} {wf' : β → Prop} (ho : g.offset = o) (h : OpensR P g.type z f wf) (he : o' = o + z) (h' : OpensRF P fs o' z' f' wf') :
    OpensRF P (g :: fs) o (z + z') (fun x : α × β => f x.1 ++ f' x.2) (fun x => wf x.1 ∧ wf' x.2) :=
  ⟨fun {H enc w base spare held n cs} hl hx => by
    subst he
    obtain ⟨x, h1⟩ := hx 0 g rfl
    rw [ho, h.cells] at h1
    obtain ⟨a, hw, hz, hK⟩ := h.opens h1
    obtain ⟨b, hw', hz', hK'⟩ := h'.opens (enc := enc) (w := w) (base := base) (spare := spare) (held := held) (n := n) (cs := cs) (by omega) (fun i q hq => hx (i + 1) q (by simpa using hq))
    refine ⟨(a, b), ⟨hw, hw'⟩, by simp [hz, hz'], ?_⟩
    have := hK.app hK'
    rwa [← List.drop_drop, List.take_append_drop] at this⟩
theorem opensR_struct {α : Type} {P : Program} {T : TypeId} {fs : Array Field} {z : Nat} {f : α → List V} {wf : α → Prop} (hu : P.underlying T = some (.struct fs)) (hc : P.cellsOf T = z) (h : OpensRF P fs.toList 0 z f wf) : OpensR P T z f wf :=
  ⟨hc, fun {H enc w base spare held fuel cs x} hx => by
    obtain ⟨xs, n, _, _, hl, hxl, hf⟩ := DataW.trod_struct hu hx
    have := h.opens (enc := enc) (w := w) (base := base) (spare := spare) (held := held) (n := n) (cs := cs) (by omega) (fun i g hi => by
      have hi' : fs[i]? = some g := by simpa using hi
      have hlt : i < xs.length := by rw [hxl]; exact (Array.getElem?_eq_some_iff.1 hi').1
      exact ⟨xs[i], (hf i g hi').trans (List.getElem?_eq_getElem hlt)⟩)
    simpa using this⟩
theorem flat_len {α : Type} {z : Nat} {f : α → List V} : ∀ {l : List α}, (∀ y ∈ l, (f y).length = z) → (l.flatMap f).length = l.length * z
  | [], _ => by simp
  | a :: r, h => by
    rw [List.flatMap_cons, List.length_append, flat_len fun y hy => h y (by simp [hy]), h a (by simp), List.length_cons, Nat.succ_mul]
    omega
theorem opensR_array {α : Type} {P : Program} {T e : TypeId} {n z : Nat} {f : α → List V} {wf : α → Prop} (hu : P.underlying T = some (.array n e)) (hc : P.cellsOf T = n * z) (he : OpensR P e z f wf) :
    OpensR P T (n * z) (fun xs : List α => xs.flatMap f) (fun xs : List α => xs.length = n ∧ ∀ x ∈ xs, wf x) :=
  ⟨hc, fun {H enc w base spare held fuel cs x} hx => by
    obtain ⟨xs, m, _, _, hl, hxl, hf⟩ := DataW.trod_array hu hx
    rw [he.cells] at hf
    rw [hc] at hl
    have step : ∀ k, k ≤ n → ∃ l : List α, l.length = k ∧ (∀ y ∈ l, wf y ∧ (f y).length = z) ∧ RepC (allH w) (l.flatMap f) (cs.take (k * z)) := by
      intro k
      induction k with
      | zero => exact fun _ => ⟨[], rfl, by simp, by simp [RepC]⟩
      | succ k ih =>
        intro hk
        obtain ⟨l, h1, h2, h3⟩ := ih (by omega)
        have hlt : k < xs.length := by omega
        have := hf k (by omega)
        rw [List.getElem?_eq_getElem hlt] at this
        obtain ⟨y, hw, hz, hK⟩ := he.opens this
        refine ⟨l ++ [y], by simp [h1], fun q hq => ?_, ?_⟩
        · rcases List.mem_append.1 hq with hq | hq
          · exact h2 q hq
          · simp at hq; subst hq; exact ⟨hw, hz⟩
        · have := h3.app hK
          rw [List.flatMap_append, List.flatMap_cons, List.flatMap_nil, List.append_nil, Nat.succ_mul, List.take_add]
          exact this
    obtain ⟨l, h1, h2, h3⟩ := step n (Nat.le_refl _)
    refine ⟨l, ⟨h1, fun y hy => (h2 y hy).1⟩, by rw [flat_len fun y hy => (h2 y hy).2, h1], ?_⟩
    rwa [List.take_of_length_le (by omega)] at h3⟩
theorem OpensR.imp {α β : Type} {P : Program} {T : TypeId} {z : Nat} {f : α → List V} {wf : α → Prop} (h : OpensR P T z f wf) (g : α → β) {f' : β → List V} {wf' : β → Prop} (hf : ∀ a, wf a → f' (g a) = f a) (hw : ∀ a, wf a → wf' (g a)) : OpensR P T z f' wf' :=
  ⟨h.cells, fun hx => by
    obtain ⟨a, h1, h2, h3⟩ := h.opens hx
    exact ⟨g a, hw a h1, by rw [hf a h1]; exact h2, by rw [hf a h1]; exact h3⟩⟩
section
variable {H : Type} {enc : TypeId × Value → H} {P : Program} {W : World} {base b0 : Nat} {r : Reach} {spare : Nat → Bool} {held : Bool}
/-- An argument of one cell. -/
theorem argR_one {α : Type} {T : TypeId} {f : α → List V} {wf : α → Prop} {v : Value} {x : DataW H} {p : List MemPlace} (ho : OpensR P T 1 f wf) (hv : v.cells.toList = [v]) (h : DataW.Trod enc P W base spare held T v x p) : ∃ a u, wf a ∧ f a = [u] ∧ RepD (allH W) u v := by
  obtain ⟨fuel, hf⟩ := h
  rw [hv] at hf
  obtain ⟨a, h1, h2, h3⟩ := ho.opens hf
  obtain ⟨u, hu⟩ : ∃ u, f a = [u] := by
    match hfa : f a, h2 with
    | [u], _ => exact ⟨u, rfl⟩
  exact ⟨a, u, h1, hu, (h3.2 0 u v (by rw [hu]; rfl) rfl).2⟩
/-- An argument that is a struct or an array. -/
theorem argR_agg {α : Type} {T : TypeId} {z : Nat} {f : α → List V} {wf : α → Prop} {v : Value} {cs : Array Value} {x : DataW H} {p : List MemPlace} (ho : OpensR P T z f wf)
    (hv : v = .agg cs) (h : DataW.Trod enc P W base spare held T v x p) : ∃ a, wf a ∧ RepD (allH W) (.agg (f a)) v := by
  subst hv
  obtain ⟨fuel, hf⟩ := h
  obtain ⟨a, h1, h2, h3⟩ := ho.opens hf
  refine ⟨a, h1, ?_⟩
  have := h3.agg
  simpa [Value.cells] using this
theorem argR_struct {α : Type} {T : TypeId} {fs : Array Field} {z : Nat} {f : α → List V} {wf : α → Prop} {v : Value} {x : DataW H} {p : List MemPlace} (hu : P.underlying T = some (.struct fs)) (ho : OpensR P T z f wf)
    (hv : Value.okWide P W r b0 T v) (h : DataW.Trod enc P W base spare held T v x p) : ∃ a, wf a ∧ RepD (allH W) (.agg (f a)) v := by
  obtain ⟨cs, e, hsz⟩ := okWide_struct hu hv
  exact argR_agg ho e h
theorem argR_slice {α : Type} {T e : TypeId} {z : Nat} {f : α → List V} {wf : α → Prop} {v : Value} {x : DataW H} {p : List MemPlace} (hu : P.underlying T = some (.slice e)) (hc : P.cellsOf T = 1) (ho : OpensR P e z f wf)
    (hv : Value.okWide P W r b0 T v) (h : DataW.Trod enc P W base spare held T v x p) : ∃ xs : List α, (xs.length ≤ maxLen ∧ ∀ x ∈ xs, wf x) ∧ RepD (allH W) (.sl (xs.map f)) v := by
  obtain ⟨a, len, cap, e⟩ := okWide_slice hu hv
  obtain ⟨xs, u, h1, h2, h3⟩ := argR_one (opensR_slice hu hc ho) (by rw [e]; rfl) h
  obtain rfl : V.sl (xs.map f) = u := by simpa using h2
  exact ⟨xs, h1, h3⟩
theorem argR_int {T : TypeId} {k : IntKind} {v : Value} {x : DataW H} {p : List MemPlace} (hu : P.underlying T = some (.int k)) (hc : P.cellsOf T = 1)
    (hv : Value.okWide P W r b0 T v) (h : DataW.Trod enc P W base spare held T v x p) : ∃ n : Int, (Lit.int k n).wf = true ∧ RepD (allH W) (.int k n) v := by
  obtain ⟨n, e⟩ := okWide_int hu hv
  obtain ⟨n, u, h1, h2, h3⟩ := argR_one (opensR_int hu hc) (by rw [e]; rfl) h
  obtain rfl : V.int k n = u := by simpa using h2
  exact ⟨n, h1, h3⟩
theorem argR_string {T : TypeId} {v : Value} {x : DataW H} {p : List MemPlace} (hu : P.underlying T = some .string) (hc : P.cellsOf T = 1)
    (hv : Value.okWide P W r b0 T v) (h : DataW.Trod enc P W base spare held T v x p) : ∃ s : ByteArray, s.size ≤ maxLen ∧ RepD (allH W) (.str s) v := by
  obtain ⟨n, e⟩ := okWide_string hu hv
  obtain ⟨n, u, h1, h2, h3⟩ := argR_one (opensR_string hu hc) (by rw [e]; rfl) h
  obtain rfl : V.str n = u := by simpa using h2
  exact ⟨n, h1, h3⟩
/-- The arguments read behind the call as they did before: nothing below the heap's old end has turned. -/
theorem carriedR {W' : World} (hlo : laidOutB P = true) (hb : Below W.heap.size W W') : ∀ (ts : List TypeId) (vs : List Value) (ds : List (DataW H)) (ps : List MemPlace),
    (∀ t ∈ ts, P.readableRec t = true ∧ t < P.types.size) → DataW.TrodAll enc P W 0 (fun _ => true) true ts vs ds ps → (∀ x ∈ ps, x.block < W.heap.size) →
    DataW.TrodAll enc P W' 0 (fun b => decide (b < W.heap.size)) true ts vs ds ps
  | [], vs, ds, ps, _, h, _ => by
    cases vs with
    | nil =>
      obtain ⟨_, rfl, rfl⟩ := trodAll_nil h
      exact trodAll_mk0
    | cons v vs => exact absurd (trodAll_nil h).1 (by simp)
  | t :: ts, vs, ds, ps, ht, h, hlt => by
    obtain ⟨v, vs', d, ds', p, q, rfl, rfl, rfl, h0, r0⟩ := trodAll_cons h
    exact ⟨p, q, Below.trod hlo (ht t (by simp)).1 (ht t (by simp)).2 h0 hb (fun x hx => hlt x (by simp [hx])),
      carriedR hlo hb ts vs' ds' q (fun u hu => ht u (by simp [hu])) r0 (fun x hx => hlt x (by simp [hx])), rfl⟩
theorem repL_nil {H : Imm} {φ : Nat → Option Value} : RepL H φ [] [] := ⟨rfl, fun i a v h => by simp at h⟩
theorem repL_cons {H : Imm} {φ : Nat → Option Value} {v : V} {vs : List V} {c : Value} {cs : List Value} (h : RepD H v c) (k : RepL H φ vs cs) : RepL H φ (v :: vs) (c :: cs) := by
  refine ⟨by simp [k.1], fun i a u h1 h2 => ?_⟩
  rcases i with _ | i
  · simp at h1 h2; subst h1; subst h2; exact .d _ _ h
  · exact k.2 i a u (by simpa using h1) (by simpa using h2)
/-- A law's call: it answers true, and nothing that was there has turned. -/
theorem Pure.law {f : FuncId} {args : List V} {cargs : Array Value} (h : Pure P f args (.bool true)) (hv : RepL (allH W) φ0 args cargs.toList) :
    Calls P f cargs W fun e W' => e = .returned (.bool true) ∧ Below W.heap.size W W' := by
  have := h.2 (allH W) W cargs.toList hv (fun k o h => h)
  rw [Array.toArray_toList] at this
  refine this.mono ?_
  rintro e w' ⟨v, r, H', rfl, rfl, hr, _, _, _, hg⟩
  rw [rep_bool hr]
  exact ⟨rfl, hg.os, hg.tape, hg.output, hg.size, fun k hk => hg.block k hk (by simp)⟩
end
end Go.Proofs.Ytalkadbpdaoifaa.AX
