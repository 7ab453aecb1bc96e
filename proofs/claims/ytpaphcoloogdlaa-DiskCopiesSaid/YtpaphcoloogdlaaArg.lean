/- Arguments: what a value that can be read as data is to a walk; and that it reads behind the call as it did before. -/
import Derived.Test.YtpaphcoloogdlaaKit
import Derived.WalkKit
import Derived.ProofKit
import Derived.OpenShut
import Derived.ShutString
import Derived.ChangeOld
import Derived.Below
import Derived.Carry
import Derived.Lib.SmallJoins
namespace Go.Proofs.Ytpaphcoloogdlaa.Arg
open Go.RowKit Go.ChangeShapes Go.WideShapes Go.ChangeAt Go.Proofs.YtpaphcoloogdlaaW.PrintWords
set_option linter.unusedVariables false
set_option linter.unusedSimpArgs false
section
variable {H : Type} {enc : TypeId × Value → H} {P : Program} {W W' : World}

/-- The arguments read behind the call as they did before: nothing below the heap's old end has turned. -/
theorem carried (hlo : laidOutB P = true) (hb : Below W.heap.size W W') : ∀ (ts : List TypeId) (vs : List Value) (ds : List (DataW H)) (ps : List MemPlace),
    (∀ t ∈ ts, P.readableRec t = true ∧ t < P.types.size) → DataW.TrodAll enc P W 0 (fun _ => true) true ts vs ds ps → (∀ x ∈ ps, x.block < W.heap.size) →
    DataW.TrodAll enc P W' 0 (fun b => decide (b < W.heap.size)) true ts vs ds ps
  | [], vs, ds, ps, _, h, _ => by
    cases vs with
    | nil =>
      obtain ⟨_, rfl, rfl⟩ := trodAll_nil h
      exact trodAll_mk0
    | cons v vs => exact absurd (trodAll_nil h).1 (by simp)
  | t :: ts, vs, ds, ps, ht, h, hlt => by
    obtain ⟨v, vs', d, ds', p, q, rfl, rfl, rfl, h0, r0⟩ := trodAll_cons h
    exact ⟨p, q, Below.trod hlo (ht t (by simp)).1 (ht t (by simp)).2 h0 hb (fun x hx => hlt x (by simp [hx])),
      carried hlo hb ts vs' ds' q (fun u hu => ht u (by simp [hu])) r0 (fun x hx => hlt x (by simp [hx])), rfl⟩

/-- Cells that read as a slice of whole numbers. -/
theorem cells_ints {base : Nat} {spare : Nat → Bool} {held : Bool} {fuel : Nat} {t e : TypeId} {k : IntKind} {cs : List Value} {x : DataW H × List MemPlace}
    (hu : P.underlying t = some (.slice e)) (he : P.underlying e = some (.int k)) (hc : P.cellsOf e = 1) (h : DataW.trod enc P W base spare held fuel t cs = some x) :
    ∃ (A : Option Addr) (c : Nat) (xs : List Int), cs = [.slice A xs.length c] ∧ xs.length ≤ c ∧ Kd.C (Kd.int k) W A xs.length xs ∧ ∀ n ∈ xs, (Lit.int k n).wf = true := by
  rcases open_ints hu he hc h with ⟨rfl, _⟩ | ⟨a, len, cap, zs, rfl, _, hl, hm, hz, _, hcell, hwz⟩
  · exact ⟨none, 0, [], rfl, by simp, ⟨rfl, by simp, fun h => absurd h (Nat.lt_irrefl 0)⟩, by simp⟩
  · have hlz : len ≤ zs.length := by
      rw [hz]
      split <;> omega
    have hlen : (zs.take len).length = len := by simp; omega
    refine ⟨some a, cap, zs.take len, by rw [hlen], by rw [hlen]; exact hl, ⟨rfl, ?_, fun _ => ⟨a, rfl, fun j p hj => ⟨[.int k p], rfl, rfl, fun i u hi => ?_⟩⟩⟩, fun n hn => hwz n (List.mem_of_mem_take hn)⟩
    · rw [hlen]; unfold maxLen at hm; omega
    · have hjl : j < len := by have := (List.getElem?_eq_some_iff.1 hj).1; omega
      have hi0 : i = 0 := by
        rcases i with _ | i
        · rfl
        · simp at hi
      subst hi0
      have hu : Value.int k p = u := by simpa using hi
      subst hu
      have hs : (Kd.int k).sz = 1 := rfl
      rw [hs, Nat.mul_one, Nat.add_zero, hcell j (by omega)]
      have : zs[j]? = some p := by rw [List.getElem?_take_of_lt hjl] at hj; exact hj
      simp [List.getD_eq_getElem?_getD, this]

/-- An argument that is a slice of whole numbers. -/
theorem arg_ints {base b0 : Nat} {r : Reach} {spare : Nat → Bool} {held : Bool} {t e : TypeId} {k : IntKind} {v : Value} {d : DataW H} {p : List MemPlace}
    (hu : P.underlying t = some (.slice e)) (he : P.underlying e = some (.int k)) (hc : P.cellsOf e = 1) (hv : Value.okWide P W r b0 t v) (h : DataW.Trod enc P W base spare held t v d p) :
    ∃ (A : Option Addr) (c : Nat) (xs : List Int), v = .slice A xs.length c ∧ xs.length ≤ c ∧ Kd.C (Kd.int k) W A xs.length xs ∧ ∀ n ∈ xs, (Lit.int k n).wf = true := by
  obtain ⟨a, len, cap, rfl⟩ := okWide_slice hu hv
  obtain ⟨fuel, hf⟩ := h
  obtain ⟨A, c, xs, e1, h1, h2, h3⟩ := cells_ints hu he hc hf
  simp only [Value.cells, List.cons.injEq, Value.slice.injEq, and_true] at e1
  exact ⟨A, c, xs, by rw [e1.1, e1.2.1, e1.2.2], h1, h2, h3⟩
end
end Go.Proofs.Ytpaphcoloogdlaa.Arg
