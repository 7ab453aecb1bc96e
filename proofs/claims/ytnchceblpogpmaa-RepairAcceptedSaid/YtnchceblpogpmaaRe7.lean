/- Votes that count, as the document has them: what was heard before. -/
import Derived.Test.YtnchceblpogpmaaRe6
namespace Go.Proofs.Ytnchceblpogpmaa.AX
open Go Go.RowKit
set_option linter.unusedSimpArgs false
set_option linter.unusedVariables false
theorem cnt_bump_some (t : List (Int × Int)) (k q : Int) : (cnt (bump t k) q).isSome = ((cnt t q).isSome || decide (k = q)) := by
  induction t with
  | nil => by_cases h : k = q <;> simp [bump, cnt, h]
  | cons a r ih =>
    obtain ⟨p, n⟩ := a
    rw [bump]
    by_cases hp : p = k
    · rw [if_pos hp]
      subst hp
      by_cases hq : p = q <;> simp [cnt, hq]
    · rw [if_neg hp]
      by_cases hq : p = q
      · simp [cnt, hq]
      · simp only [cnt, if_neg hq, Option.isSome_map]
        exact ih
/-- Who has been heard among these. -/
theorem cnt_fold (l : List VoteS) : ∀ (t : List (Int × Int)) (q : Int), (cnt (l.foldl (fun t v => bump t v.fr) t) q).isSome = ((cnt t q).isSome || l.any fun v => decide (v.fr = q)) := by
  induction l with
  | nil => intro t q; simp
  | cons v r ih =>
    intro t q
    rw [List.foldl_cons, ih, cnt_bump_some, List.any_cons, Bool.or_assoc]
theorem cnt_tally (l : List VoteS) (q : Int) : (cnt (tally l) q).isSome = l.any fun v => decide (v.fr = q) := by
  have := cnt_fold l [] q
  simpa [tally, cnt] using this
/-- One after the other: what counts of the first k+1. -/
theorem pickN_snoc (l : List VoteS) : ∀ (t : List (Int × Int)) (v : VoteS), pickN t (l ++ [v]) = pickN t l ++ (if (cnt (l.foldl (fun t v => bump t v.fr) t) v.fr).isSome = true then [] else [v]) := by
  induction l with
  | nil =>
    intro t v
    simp only [List.nil_append, pickN, List.foldl_nil]
    rfl
  | cons a r ih =>
    intro t v
    rw [List.cons_append, pickN, pickN, ih, List.foldl_cons]
    split <;> simp
theorem counted_next {l : List VoteS} {k : Nat} {v : VoteS} (h : l[k]? = some v) : counted (l.take (k + 1)) = counted (l.take k) ++ (if (l.take k).any (fun u => decide (u.fr = v.fr)) = true then [] else [v]) := by
  have e : l.take (k + 1) = l.take k ++ [v] := by rw [List.take_add_one, h]; rfl
  rw [e, counted, pickN_snoc, ← counted]
  have := cnt_tally (l.take k) v.fr
  rw [tally] at this
  rw [this]
end Go.Proofs.Ytnchceblpogpmaa.AX
