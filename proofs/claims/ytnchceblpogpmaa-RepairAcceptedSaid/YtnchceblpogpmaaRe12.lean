/- Whether a fast quorum may have been, as the document has it. -/
import Derived.Test.YtnchceblpogpmaaRe9
namespace Go.Proofs.Ytnchceblpogpmaa.AX
open Go Go.RowKit
set_option linter.unusedSimpArgs false
set_option linter.unusedVariables false
set_option maxRecDepth 100000
set_option maxHeartbeats 4000000
theorem pickN_any (q : Int) : ∀ (l : List VoteS) (t : List (Int × Int)), ((cnt t q).isSome || (pickN t l).any fun v => decide (v.fr = q)) = ((cnt t q).isSome || l.any fun v => decide (v.fr = q))
  | [], t => by simp [pickN]
  | v :: r, t => by
    have ih := pickN_any q r (bump t v.fr)
    rw [cnt_bump_some] at ih
    rw [pickN, List.any_cons]
    by_cases hv : (cnt t v.fr).isSome = true
    · rw [if_pos hv]
      by_cases hq : v.fr = q
      · subst hq; simp [hv]
      · simpa [hq] using ih
    · rw [if_neg hv, List.any_cons]
      by_cases hq : v.fr = q
      · subst hq; simp
      · simpa [hq] using ih
theorem counted_any (l : List VoteS) (q : Int) : ((counted l).any fun v => decide (v.fr = q)) = l.any fun v => decide (v.fr = q) := by
  have := pickN_any q l []
  simpa [cnt, counted] using this
def own (ir : Int) (v : VoteS) : Bool := decide (v.fr = ir)
theorem fastS_own {f ir is : Int} {l : List VoteS} (h : mayE f ir is (counted l) = 0) : fastS f ir is l = (!(counted l).any (own ir) && decide (f ≤ quickN (counted l))) := by
  have e : (cnt (tally l) ir).isNone = !(counted l).any (own ir) := by
    rw [show own ir = fun v : VoteS => decide (v.fr = ir) from rfl, counted_any, ← cnt_tally]
    cases cnt (tally l) ir <;> rfl
  simp [fastS, h, e]
theorem quickN_next {l : List VoteS} {i : Nat} {v : VoteS} (hv : l[i]? = some v) : quickN (l.take (i + 1)) = quickN (l.take i) + (if v.quick = true then 1 else 0) := by
  simp only [quickN]
  rw [List.take_add_one, hv, List.filter_append]
  by_cases hk : v.quick = true <;> simp [hk]
theorem quickN_lt (l : List VoteS) (i : Nat) : 0 ≤ quickN (l.take i) ∧ quickN (l.take i) ≤ i := by
  have := List.length_filter_le VoteS.quick (l.take i)
  simp only [quickN, List.length_take] at this ⊢
  omega
theorem c_rFast (f ir is : Int) (l : List VoteS) (hl : l.length ≤ 100 := by assumption) (hs : ∀ v ∈ l, v.r.c.Small := by assumption) : Pure Try.prog 15 [i64 f, .agg [i64 ir, i64 is], .sl (l.map VoteS.cs)] (.bool (fastS f ir is l)) := by
  have hcl : (counted l).length ≤ 100 := Nat.le_trans (pickN_le l []) hl
  rcases hm : decide (mayE f ir is (counted l) = 0) with _ | _
  · have hm' := eq_false (of_decide_eq_false hm)
    have e : fastS f ir is l = false := by simp [fastS, hm']
    rw [e]
    refine pureQ_of_aw dOk Try.func15 rfl rfl rfl rfl rfl ?_
    simp [Try.f15]
    repeat' (first | intro _ | with_reducible refine And.intro ?_ ?_ | exact chkI (by kernel_rfl) | exact backI (by kernel_rfl) | (refine callA (by first | rfl | (simp; done) | (simp; rfl)) (c_quick ..) ?_ <;> try simp [hm']) | (refine callB (by first | rfl | (simp; done) | (simp; rfl)) (c_quick ..) ?_ <;> try simp [hm']) | (refine callA (by first | rfl | (simp; done) | (simp; rfl)) (c_rCounted ..) ?_ <;> try simp [hm']) | (refine callB (by first | rfl | (simp; done) | (simp; rfl)) (c_rCounted ..) ?_ <;> try simp [hm']) | (refine callA (by first | rfl | (simp; done) | (simp; rfl)) (c_rWhy ..) ?_ <;> try simp [hm']) | (refine callB (by first | rfl | (simp; done) | (simp; rfl)) (c_rWhy ..) ?_ <;> try simp [hm']) | fail)
  · have hm' := eq_true (of_decide_eq_true hm)
    have e := fastS_own (of_decide_eq_true hm)
    refine pureQ_of_aw dOk Try.func15 rfl rfl rfl rfl rfl ?_
    simp [Try.f15]
    repeat' (first | intro _ | with_reducible refine And.intro ?_ ?_ | exact chkI (by kernel_rfl) | exact backI (by kernel_rfl) | (refine callA (by first | rfl | (simp; done) | (simp; rfl)) (c_quick ..) ?_ <;> try simp [hm']) | (refine callB (by first | rfl | (simp; done) | (simp; rfl)) (c_quick ..) ?_ <;> try simp [hm']) | (refine callA (by first | rfl | (simp; done) | (simp; rfl)) (c_rCounted ..) ?_ <;> try simp [hm']) | (refine callB (by first | rfl | (simp; done) | (simp; rfl)) (c_rCounted ..) ?_ <;> try simp [hm']) | (refine callA (by first | rfl | (simp; done) | (simp; rfl)) (c_rWhy ..) ?_ <;> try simp [hm']) | (refine callB (by first | rfl | (simp; done) | (simp; rfl)) (c_rWhy ..) ?_ <;> try simp [hm']) | fail)
    refine aw_loopK (α := {i : Nat // i ≤ (counted l).length ∧ (counted l).any (own ir) = ((counted l).drop i).any (own ir)}) [0, 4, 7, 38, 39, 40] (fun i => [(9, i64 i.1), (8, i64 (quickN ((counted l).take i.1)))]) (fun i => (counted l).length - i.1) ⟨0, by simp⟩ (by simp [quickN]) ?_
    rintro ⟨i, j1, j2⟩
    dsimp only
    by_cases hi : i < (counted l).length
    · obtain ⟨v, hv⟩ := getL_some hi
      have hw := wrI hi (by omega)
      have hq := quickN_lt (counted l) i
      have hw2 : IntKind.i64.wrap (quickN ((counted l).take i) + 1) = quickN ((counted l).take i) + 1 := wr64 (by omega) (by omega)
      have ht := quickN_next hv
      rw [dropL_at hv, List.any_cons] at j2
      by_cases ho : v.fr = ir
      · have ho' := eq_true ho
        have e2 : own ir v = true := by simp [own, ho]
        rw [e2, Bool.true_or] at j2
        rw [e, j2]
        simp [hv, ho']
        repeat' (first | intro _ | with_reducible refine And.intro ?_ ?_ | exact chkI (by kernel_rfl) | exact backI (by kernel_rfl) | (refine callA (by first | rfl | (simp; done) | (simp; rfl)) (c_quick ..) ?_ <;> try simp [hv, ho']) | (refine callB (by first | rfl | (simp; done) | (simp; rfl)) (c_quick ..) ?_ <;> try simp [hv, ho']) | (refine callA (by first | rfl | (simp; done) | (simp; rfl)) (c_rCounted ..) ?_ <;> try simp [hv, ho']) | (refine callB (by first | rfl | (simp; done) | (simp; rfl)) (c_rCounted ..) ?_ <;> try simp [hv, ho']) | (refine callA (by first | rfl | (simp; done) | (simp; rfl)) (c_rWhy ..) ?_ <;> try simp [hv, ho']) | (refine callB (by first | rfl | (simp; done) | (simp; rfl)) (c_rWhy ..) ?_ <;> try simp [hv, ho']) | fail)
        all_goals first | omega
      · have ho' := eq_false ho
        have e2 : own ir v = false := by simp [own, ho]
        rw [e2, Bool.false_or] at j2
        rcases hk : v.quick with _ | _
        · rw [hk] at ht
          simp [hv, ho']
          repeat' (first | intro _ | with_reducible refine And.intro ?_ ?_ | exact chkI (by kernel_rfl) | exact backI (by kernel_rfl) | (refine callA (by first | rfl | (simp; done) | (simp; rfl)) (c_quick ..) ?_ <;> try simp [hv, ho', hk]) | (refine callB (by first | rfl | (simp; done) | (simp; rfl)) (c_quick ..) ?_ <;> try simp [hv, ho', hk]) | (refine callA (by first | rfl | (simp; done) | (simp; rfl)) (c_rCounted ..) ?_ <;> try simp [hv, ho', hk]) | (refine callB (by first | rfl | (simp; done) | (simp; rfl)) (c_rCounted ..) ?_ <;> try simp [hv, ho', hk]) | (refine callA (by first | rfl | (simp; done) | (simp; rfl)) (c_rWhy ..) ?_ <;> try simp [hv, ho', hk]) | (refine callB (by first | rfl | (simp; done) | (simp; rfl)) (c_rWhy ..) ?_ <;> try simp [hv, ho', hk]) | fail)
          all_goals first | omega | (refine Exists.intro (i + 1) (And.intro (by omega) (And.intro (And.intro (by omega) j2) (St.to_chk [] ?_))); rw [ht]; simp [hw]; done)
        · rw [hk] at ht
          simp [hv, ho']
          repeat' (first | intro _ | with_reducible refine And.intro ?_ ?_ | exact chkI (by kernel_rfl) | exact backI (by kernel_rfl) | (refine callA (by first | rfl | (simp; done) | (simp; rfl)) (c_quick ..) ?_ <;> try simp [hv, ho', hk]) | (refine callB (by first | rfl | (simp; done) | (simp; rfl)) (c_quick ..) ?_ <;> try simp [hv, ho', hk]) | (refine callA (by first | rfl | (simp; done) | (simp; rfl)) (c_rCounted ..) ?_ <;> try simp [hv, ho', hk]) | (refine callB (by first | rfl | (simp; done) | (simp; rfl)) (c_rCounted ..) ?_ <;> try simp [hv, ho', hk]) | (refine callA (by first | rfl | (simp; done) | (simp; rfl)) (c_rWhy ..) ?_ <;> try simp [hv, ho', hk]) | (refine callB (by first | rfl | (simp; done) | (simp; rfl)) (c_rWhy ..) ?_ <;> try simp [hv, ho', hk]) | fail)
          all_goals first | omega | (refine Exists.intro (i + 1) (And.intro (by omega) (And.intro (And.intro (by omega) j2) (St.to_chk [] ?_))); rw [ht]; simp [hw, hw2]; done)
    · have hle : (counted l).length ≤ i := by omega
      rw [List.drop_eq_nil_of_le (by omega), List.any_nil] at j2
      rw [List.take_of_length_le hle, e, j2]
      simp [hi]
      repeat' (first | intro _ | with_reducible refine And.intro ?_ ?_ | exact chkI (by kernel_rfl) | exact backI (by kernel_rfl) | (refine callA (by first | rfl | (simp; done) | (simp; rfl)) (c_quick ..) ?_ <;> try simp) | (refine callB (by first | rfl | (simp; done) | (simp; rfl)) (c_quick ..) ?_ <;> try simp) | (refine callA (by first | rfl | (simp; done) | (simp; rfl)) (c_rCounted ..) ?_ <;> try simp) | (refine callB (by first | rfl | (simp; done) | (simp; rfl)) (c_rCounted ..) ?_ <;> try simp) | (refine callA (by first | rfl | (simp; done) | (simp; rfl)) (c_rWhy ..) ?_ <;> try simp) | (refine callB (by first | rfl | (simp; done) | (simp; rfl)) (c_rWhy ..) ?_ <;> try simp) | fail)
      all_goals first | omega
end Go.Proofs.Ytnchceblpogpmaa.AX
