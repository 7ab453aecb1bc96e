/- What is told is of a vote: plain. -/
import Derived.Test.YtnchceblpogpmaaRe17
namespace Go.Proofs.Ytnchceblpogpmaa.AX
open Go Go.RowKit
set_option linter.unusedSimpArgs false
set_option linter.unusedVariables false
set_option maxRecDepth 100000
set_option maxHeartbeats 4000000
def known (v : VoteS) : Bool := decide (0 < v.r.st)
def xr (r : Rec) (v : VoteS) : Rec := ⟨r.ir, r.is, v.r.st, v.r.pn, v.r.pr, v.r.bn, v.r.br, r.c, r.sq, r.d0, r.d1, r.d2, r.d3, r.d4, r.d5, r.d6, v.r.kept⟩
def from1 (r : Rec) (v : VoteS) : Bool := known v && (xr r v).same v.r
theorem bestF_none {p : VoteS → Bool} : ∀ {l : List VoteS} {k : Nat} {a : Option (Nat × VoteS)}, bestF p k a l = none → a = none ∧ ∀ v ∈ l, p v = false
  | [], k, a, h => ⟨h, fun v hv => by cases hv⟩
  | v :: r, k, a, h => by
    rw [bestF] at h
    obtain ⟨h1, h2⟩ := bestF_none h
    unfold nextB at h1
    split at h1
    · split at h1
      · cases h1
      · split at h1 <;> cases h1
    · rename_i hp
      refine ⟨h1, fun u hu => ?_⟩
      rcases List.mem_cons.1 hu with rfl | hu
      · simpa using hp
      · exact h2 u hu
theorem best_none {p : VoteS → Bool} {l : List VoteS} (h : best p l = none) : ∀ v ∈ l, p v = false := (bestF_none h).2
theorem xr_as (v : VoteS) (s : Int) : xr (asR v.r s) v = v.r := rfl
/-- How it comes about. -/
theorem decS_how {f ir is : Int} {l c : List VoteS} (hr : ∀ v ∈ c, v.r.right = true) :
    (∃ v ∈ c, v.r.st = 3 ∧ decS f ir is l c = asR v.r 3) ∨ ((∀ v ∈ c, v.r.st ≠ 3) ∧ ((∃ v ∈ c, 0 < v.r.st ∧ ∃ s, (s = 1 ∨ s = 2) ∧ decS f ir is l c = asR v.r s) ∨ ((∀ v ∈ c, v.r.st = 0) ∧ decS f ir is l c = lastR ir is))) := by
  unfold decS
  split
  · rename_i v h
    refine .inl ⟨v, List.mem_of_find?_eq_some h, ?_, rfl⟩
    have := List.find?_some h
    simpa [isSt] using this
  · rename_i h3
    have n3 : ∀ v ∈ c, v.r.st ≠ 3 := fun v hv => by
      have := List.find?_eq_none.1 h3 v hv
      simpa [isSt] using this
    refine .inr ⟨n3, ?_⟩
    split
    · rename_i x h
      have := best_at (n := x.1) (u := x.2) h
      refine .inl ⟨x.2, List.mem_of_getElem? this.1, ?_, 2, .inr rfl, rfl⟩
      have := this.2
      simp [isSt] at this
      omega
    · rename_i h2
      have n2 := best_none h2
      split
      · rename_i v h
        split at h
        · refine .inl ⟨v, List.mem_of_find?_eq_some h, ?_, 2, .inr rfl, rfl⟩
          have := List.find?_some h
          simp [VoteS.quick] at this
          omega
        · cases h
      · split
        · rename_i x h
          have := best_at (n := x.1) (u := x.2) h
          refine .inl ⟨x.2, List.mem_of_getElem? this.1, ?_, 1, .inl rfl, rfl⟩
          have := this.2
          simp [isSt] at this
          omega
        · rename_i h1
          have n1 := best_none h1
          refine .inr ⟨fun v hv => ?_, rfl⟩
          have a1 := n1 v hv
          have a2 := n2 v hv
          have a3 := n3 v hv
          have a4 := hr v hv
          simp [isSt] at a1 a2
          simp only [Rec.right, Bool.and_eq_true, decide_eq_true_eq] at a4
          omega
theorem as_right {r : Rec} {s : Int} (h : r.right = true) (h0 : 0 < r.st) (hs : 1 ≤ s ∧ s ≤ 3) : (asR r s).right = true := by
  simp only [Rec.right, Bool.and_eq_true, decide_eq_true_eq] at h
  rw [if_neg (by omega)] at h
  have hz : okBal 0 0 = true := by decide
  have ho : ord 0 0 0 0 = 0 := by decide
  simp only [Rec.right, asR, hz, ho, Bool.and_eq_true, decide_eq_true_eq]
  have hs0 : ¬ s = 0 := by omega
  have h7 := h.2.2.2.2.2.2
  simp only [Bool.and_eq_true, decide_eq_true_eq] at h7
  simp [h.1, h7, hs0]
  refine ⟨decide_eq_true ⟨by omega, by omega⟩, ?_⟩
  by_cases h1 : s = 1 <;> simp [h1]
theorem last_right {ir is : Int} (h : okInst ir is = true) : (lastR ir is).right = true := by
  have : Cmd.zero.right = true := by decide
  have hz : okBal 0 0 = true := by decide
  have ho : ord 0 0 0 0 = 0 := by decide
  have hd : okDeps 0 0 0 0 0 0 0 = true := by decide
  simp [Rec.right, lastR, h, this, hz, ho, hd]
/-- The law, plain. -/
theorem decS_law {f ir is : Int} {l c : List VoteS} (hi : okInst ir is = true) (hr : ∀ v ∈ c, v.r.right = true) (hc : ∀ v ∈ c, v.r.ir = ir ∧ v.r.is = is) :
    (decS f ir is l c).ir = ir ∧ (decS f ir is l c).is = is ∧ decide ((decS f ir is l c).st = 3) = c.any (isSt 3) ∧ c.any (from1 (decS f ir is l c)) = c.any known ∧ (c.any known = true ∨ (decS f ir is l c).c.kind = 0) ∧ (decS f ir is l c).right = true := by
  have kn : ∀ v ∈ c, 0 < v.r.st → c.any known = true := fun v hv h => List.any_eq_true.2 ⟨v, hv, by simp [known, h]⟩
  have fr : ∀ v ∈ c, 0 < v.r.st → ∀ s, c.any (from1 (asR v.r s)) = true := fun v hv h s => List.any_eq_true.2 ⟨v, hv, by simp [from1, known, h, xr_as, Rec.same_self]⟩
  rcases decS_how (f := f) (ir := ir) (is := is) (l := l) hr with ⟨v, hv, h3, e⟩ | ⟨n3, ⟨v, hv, h0, s, hs, e⟩ | ⟨n0, e⟩⟩
  · rw [e]
    refine ⟨(hc v hv).1, (hc v hv).2, ?_, ?_, .inl (kn v hv (by omega)), as_right (hr v hv) (by omega) (by omega)⟩
    · have : c.any (isSt 3) = true := List.any_eq_true.2 ⟨v, hv, by simp [isSt, h3]⟩
      rw [this]; rfl
    · rw [fr v hv (by omega), kn v hv (by omega)]
  · rw [e]
    refine ⟨(hc v hv).1, (hc v hv).2, ?_, ?_, .inl (kn v hv h0), as_right (hr v hv) h0 (by omega)⟩
    · have : c.any (isSt 3) = false := List.any_eq_false.2 fun u hu => by simpa [isSt] using n3 u hu
      rw [this]
      have : ¬ s = 3 := by omega
      simp [asR, this]
    · rw [fr v hv h0, kn v hv h0]
  · rw [e]
    have k0 : c.any known = false := List.any_eq_false.2 fun u hu => by have := n0 u hu; simp [known]; omega
    have f0 : c.any (from1 (lastR ir is)) = false := List.any_eq_false.2 fun u hu => by have := n0 u hu; simp [from1, known]; omega
    refine ⟨rfl, rfl, ?_, by rw [k0, f0], .inr rfl, last_right hi⟩
    have : c.any (isSt 3) = false := List.any_eq_false.2 fun u hu => by simpa [isSt] using n3 u hu
    rw [this]; rfl
theorem bad_no {n ir is : Int} {v : VoteS} (h : badV n ir is v = false) : 0 ≤ v.fr ∧ v.fr < n ∧ v.r.ir = ir ∧ v.r.is = is ∧ v.r.right = true := by
  simp only [badV, Bool.or_eq_false_iff, decide_eq_false_iff_not, Bool.not_eq_false'] at h
  obtain ⟨h1, h2⟩ := h
  exact ⟨by omega, by omega, by omega, by omega, h2⟩
theorem any_next {p : VoteS → Bool} {l : List VoteS} {i : Nat} {v : VoteS} (h : l[i]? = some v) : (l.take (i + 1)).any p = ((l.take i).any p || p v) := by
  rw [List.take_add_one, h, List.any_append]
  simp
end Go.Proofs.Ytnchceblpogpmaa.AX
