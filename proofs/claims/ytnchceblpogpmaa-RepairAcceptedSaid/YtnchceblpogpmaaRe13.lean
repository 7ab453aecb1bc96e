/- What is to be done: plain. -/
import Derived.Test.YtnchceblpogpmaaRe10
import Derived.Test.YtnchceblpogpmaaRe12
namespace Go.Proofs.Ytnchceblpogpmaa.AX
open Go Go.RowKit
set_option linter.unusedSimpArgs false
set_option linter.unusedVariables false
set_option maxRecDepth 100000
set_option maxHeartbeats 4000000
theorem pickN_again : ∀ (l : List VoteS) (t t' : List (Int × Int)), (∀ q, (cnt t' q).isSome = true → (cnt t q).isSome = true) → pickN t' (pickN t l) = pickN t l
  | [], t, t', h => by simp [pickN]
  | v :: r, t, t', h => by
    rw [pickN]
    split
    · exact pickN_again r (bump t v.fr) t' fun q hq => by rw [cnt_bump_some, h q hq, Bool.true_or]
    · rename_i hv
      rw [pickN, if_neg fun hh => hv (h _ hh)]
      congr 1
      refine pickN_again r (bump t v.fr) (bump t' v.fr) fun q hq => ?_
      rw [cnt_bump_some, Bool.or_eq_true] at hq ⊢
      rcases hq with hq | hq
      · exact .inl (h q hq)
      · exact .inr hq
theorem counted_again (l : List VoteS) : counted (counted l) = counted l := pickN_again l [] [] fun _ h => h
theorem fastS_again (f ir is : Int) (l : List VoteS) : fastS f ir is (counted l) = fastS f ir is l := by
  rcases hm : decide (mayE f ir is (counted l) = 0) with _ | _
  · have hm' := of_decide_eq_false hm
    simp [fastS, counted_again, hm']
  · have hm' := of_decide_eq_true hm
    rw [fastS_own hm', fastS_own (by rw [counted_again]; exact hm'), counted_again]
theorem quick_ord {u v : VoteS} (hu : u.quick = true) (hv : v.quick = true) : ¬ ord u.r.bn u.r.br v.r.bn v.r.br < 0 := by
  simp only [VoteS.quick, Bool.and_eq_true, decide_eq_true_eq] at hu hv
  rw [hu.2.1, hu.2.2.1, hv.2.1, hv.2.2.1]
  decide
theorem bestF_quick : ∀ (r : List VoteS) (k n : Nat) (u : VoteS), u.quick = true → bestF VoteS.quick k (some (n, u)) r = some (n, u)
  | [], k, n, u, h => rfl
  | v :: r, k, n, u, h => by
    have e : nextB VoteS.quick k (some (n, u)) v = some (n, u) := by
      unfold nextB
      split
      · rename_i hv
        simp only
        rw [if_neg (quick_ord h hv)]
      · rfl
    rw [bestF, e]
    exact bestF_quick r (k + 1) n u h
theorem best_quick : ∀ (l : List VoteS) (k : Nat), (bestF VoteS.quick k none l).map (·.2) = l.find? VoteS.quick
  | [], k => rfl
  | v :: r, k => by
    rw [bestF, List.find?_cons]
    rcases hq : v.quick with _ | _
    · simp only [nextB, hq]
      exact best_quick r (k + 1)
    · simp only [nextB, hq, if_true]
      rw [bestF_quick _ _ _ _ hq]
      rfl
theorem quickN_find {l : List VoteS} (h : 1 ≤ quickN l) : ∃ v, l.find? VoteS.quick = some v := by
  have : l.filter VoteS.quick ≠ [] := fun e => by simp [quickN, e] at h
  obtain ⟨v, hv⟩ := List.exists_mem_of_ne_nil _ this
  rw [List.mem_filter] at hv
  exact Option.isSome_iff_exists.1 (List.find?_isSome.2 ⟨v, hv.1, hv.2⟩)
def lastR (ir is : Int) : Rec := ⟨ir, is, 2, 0, 0, 0, 0, .zero, 1, 0, 0, 0, 0, 0, 0, 0, false⟩
def zeroR : Rec := ⟨0, 0, 0, 0, 0, 0, 0, .zero, 0, 0, 0, 0, 0, 0, 0, 0, false⟩
/-- What is to be done, if it can be told. -/
def decS (f ir is : Int) (l c : List VoteS) : Rec :=
  match c.find? (isSt 3) with
  | some v => asR v.r 3
  | none => match best (isSt 2) c with
    | some x => asR x.2.r 2
    | none => match (if fastS f ir is l = true then c.find? VoteS.quick else none) with
      | some v => asR v.r 2
      | none => match best (isSt 1) c with
        | some x => asR x.2.r 1
        | none => lastR ir is
def decR (f ir is : Int) (l : List VoteS) : Rec := if mayE f ir is (counted l) = 0 then decS f ir is l (counted l) else zeroR
theorem may_ok {f ir is : Int} {l : List VoteS} (h : mayE f ir is l = 0) : okInst ir is = true ∧ ir < szN f ∧ 1 ≤ f ∧ f ≤ 3 ∧ f + 1 ≤ (l.length : Int) ∧ ∀ v ∈ l, badV (szN f) ir is v = false := by
  unfold mayE at h
  split at h
  · cases h
  · rename_i h1
    split at h
    · cases h
    · rename_i h2
      split at h
      · cases h
      · rename_i h3
        have hi : okInst ir is = true := by cases hh : okInst ir is; exact absurd (.inl hh) h1; rfl
        have h4 : ir < szN f := by have := fun h => h1 (.inr h); omega
        have h5 : 0 ≤ ir := by simp only [okInst, decide_eq_true_eq] at hi; omega
        have h6 : 1 ≤ f ∧ f ≤ 3 := by unfold szN at h4; split at h4 <;> omega
        refine ⟨hi, h4, h6.1, h6.2, ?_, fun v hv => ?_⟩
        · unfold slN at h3
          rw [if_pos h6] at h3
          omega
        · cases hb : badV (szN f) ir is v
          · rfl
          · exact absurd (List.any_eq_true.2 ⟨v, hv, hb⟩) h2
theorem fast_find {f ir is : Int} {l : List VoteS} (hm : mayE f ir is (counted l) = 0) (hf : fastS f ir is l = true) : ∃ v, (counted l).find? VoteS.quick = some v := by
  have hk := may_ok hm
  rw [fastS_own hm, Bool.and_eq_true, decide_eq_true_eq] at hf
  exact quickN_find (by omega)
theorem find_next {p : VoteS → Bool} {l : List VoteS} {i : Nat} {v : VoteS} (hv : l[i]? = some v) : (l.drop i).find? p = if p v = true then some v else (l.drop (i + 1)).find? p := by
  rw [dropL_at hv, List.find?_cons]
  cases p v <;> rfl
theorem as_last (ir is : Int) : asR ⟨ir, is, 0, 0, 0, 0, 0, .zero, 1, 0, 0, 0, 0, 0, 0, 0, false⟩ 2 = lastR ir is := rfl
theorem zero_small : Cmd.zero.Small := ⟨by simp [Cmd.zero], by simp [Cmd.zero], by simp [Cmd.zero], by simp [Cmd.zero]⟩
theorem best_small {p : VoteS → Bool} {l : List VoteS} (hs : ∀ v ∈ l, v.r.c.Small) {x : Nat × VoteS} (h : best p l = some x) : x.2.r.c.Small := hs _ (List.mem_of_getElem? (best_at (n := x.1) (u := x.2) h).1)
end Go.Proofs.Ytnchceblpogpmaa.AX
