/- Why nothing can be told, as the document has it. -/
import Derived.Test.YtnchceblpogpmaaRe8
namespace Go.Proofs.Ytnchceblpogpmaa.AX
open Go Go.RowKit
set_option linter.unusedSimpArgs false
set_option linter.unusedVariables false
set_option maxRecDepth 100000
set_option maxHeartbeats 4000000
theorem c_rWhy (f ir is : Int) (l : List VoteS) (hl : l.length ≤ 100 := by assumption) (hs : ∀ v ∈ l, v.r.c.Small := by assumption) : Pure Try.prog 32 [i64 f, .agg [i64 ir, i64 is], .sl (l.map VoteS.cs)] (i64 (mayE f ir is (counted l))) := by
  have hcl : (counted l).length ≤ 100 := Nat.le_trans (pickN_le l []) hl
  have hcs : ∀ v ∈ counted l, v.r.c.Small := fun v hv => hs v (pickN_mem l [] v hv)
  have hir : okInst ir is = true → 0 ≤ ir := fun h => by simp only [okInst, decide_eq_true_eq] at h; omega
  have hsz : szN f = 0 ∨ szN f = 2 * f + 1 ∧ slN f = f + 1 ∧ 1 ≤ f ∧ f ≤ 3 := by unfold szN slN; split <;> omega
  by_cases h0 : okInst ir is = false ∨ szN f ≤ ir
  · have e : mayE f ir is (counted l) = 1 := by unfold mayE; rw [if_pos h0]
    rw [e]
    rcases h1 : okInst ir is with _ | _
    · refine pureQ_of_aw dOk Try.func32 rfl rfl rfl rfl rfl ?_
      simp [Try.f32]
      repeat' (first | intro _ | with_reducible refine And.intro ?_ ?_ | exact chkI (by kernel_rfl) | exact backI (by kernel_rfl) | (refine callA (by first | rfl | (simp; done) | (simp; rfl)) (c_rInst' ..) ?_ <;> try simp [h1]) | (refine callB (by first | rfl | (simp; done) | (simp; rfl)) (c_rInst' ..) ?_ <;> try simp [h1]) | (refine callA (by first | rfl | (simp; done) | (simp; rfl)) (c_rightRec' ..) ?_ <;> try simp [h1]) | (refine callB (by first | rfl | (simp; done) | (simp; rfl)) (c_rightRec' ..) ?_ <;> try simp [h1]) | (refine callA (by first | rfl | (simp; done) | (simp; rfl)) (c_rSize ..) ?_ <;> try simp [h1]) | (refine callB (by first | rfl | (simp; done) | (simp; rfl)) (c_rSize ..) ?_ <;> try simp [h1]) | (refine callA (by first | rfl | (simp; done) | (simp; rfl)) (c_rCounted ..) ?_ <;> try simp [h1]) | (refine callB (by first | rfl | (simp; done) | (simp; rfl)) (c_rCounted ..) ?_ <;> try simp [h1]) | fail)
      all_goals first | omega
    · have h2 := eq_true (show szN f ≤ ir by rcases h0 with h | h; rw [h1] at h; cases h; exact h)
      refine pureQ_of_aw dOk Try.func32 rfl rfl rfl rfl rfl ?_
      simp [Try.f32]
      repeat' (first | intro _ | with_reducible refine And.intro ?_ ?_ | exact chkI (by kernel_rfl) | exact backI (by kernel_rfl) | (refine callA (by first | rfl | (simp; done) | (simp; rfl)) (c_rInst' ..) ?_ <;> try simp [h1, h2]) | (refine callB (by first | rfl | (simp; done) | (simp; rfl)) (c_rInst' ..) ?_ <;> try simp [h1, h2]) | (refine callA (by first | rfl | (simp; done) | (simp; rfl)) (c_rightRec' ..) ?_ <;> try simp [h1, h2]) | (refine callB (by first | rfl | (simp; done) | (simp; rfl)) (c_rightRec' ..) ?_ <;> try simp [h1, h2]) | (refine callA (by first | rfl | (simp; done) | (simp; rfl)) (c_rSize ..) ?_ <;> try simp [h1, h2]) | (refine callB (by first | rfl | (simp; done) | (simp; rfl)) (c_rSize ..) ?_ <;> try simp [h1, h2]) | (refine callA (by first | rfl | (simp; done) | (simp; rfl)) (c_rCounted ..) ?_ <;> try simp [h1, h2]) | (refine callB (by first | rfl | (simp; done) | (simp; rfl)) (c_rCounted ..) ?_ <;> try simp [h1, h2]) | fail)
      all_goals first | omega
  · have h1 : okInst ir is = true := by cases hh : okInst ir is; exact absurd (.inl hh) h0; rfl
    have h2 := eq_false (show ¬ szN f ≤ ir from fun h => h0 (.inr h))
    have hp := hir h1
    have h3 := eq_false (show ¬ szN f = 0 by omega)
    have e : mayE f ir is (counted l) = if (counted l).any (badV (szN f) ir is) = true then 1 else if ((counted l).length : Int) < slN f then 13 else 0 := by unfold mayE; rw [if_neg h0]
    have w1 : IntKind.i64.wrap (f + 1) = f + 1 := wr64 (by omega) (by omega)
    refine pureQ_of_aw dOk Try.func32 rfl rfl rfl rfl rfl ?_
    simp [Try.f32]
    repeat' (first | intro _ | with_reducible refine And.intro ?_ ?_ | exact chkI (by kernel_rfl) | exact backI (by kernel_rfl) | (refine callA (by first | rfl | (simp; done) | (simp; rfl)) (c_rInst' ..) ?_ <;> try simp [h1, h2, h3]) | (refine callB (by first | rfl | (simp; done) | (simp; rfl)) (c_rInst' ..) ?_ <;> try simp [h1, h2, h3]) | (refine callA (by first | rfl | (simp; done) | (simp; rfl)) (c_rightRec' ..) ?_ <;> try simp [h1, h2, h3]) | (refine callB (by first | rfl | (simp; done) | (simp; rfl)) (c_rightRec' ..) ?_ <;> try simp [h1, h2, h3]) | (refine callA (by first | rfl | (simp; done) | (simp; rfl)) (c_rSize ..) ?_ <;> try simp [h1, h2, h3]) | (refine callB (by first | rfl | (simp; done) | (simp; rfl)) (c_rSize ..) ?_ <;> try simp [h1, h2, h3]) | (refine callA (by first | rfl | (simp; done) | (simp; rfl)) (c_rCounted ..) ?_ <;> try simp [h1, h2, h3]) | (refine callB (by first | rfl | (simp; done) | (simp; rfl)) (c_rCounted ..) ?_ <;> try simp [h1, h2, h3]) | fail)
    refine aw_loopK (α := {i : Nat // i ≤ (counted l).length ∧ (counted l).any (badV (szN f) ir is) = ((counted l).drop i).any (badV (szN f) ir is)}) [0, 4, 7, 8, 67, 68, 69, 70, 71] (fun i => [(9, i64 i.1)]) (fun i => (counted l).length - i.1) ⟨0, by simp⟩ (by simp) ?_
    rintro ⟨i, j1, j2⟩
    dsimp only
    by_cases hi : i < (counted l).length
    · obtain ⟨v, hv⟩ := getL_some hi
      have hw := wrI hi (by omega)
      have hsm := hcs v (List.mem_of_getElem? hv)
      rw [dropL_at hv, List.any_cons] at j2
      simp [hv]
      repeat' (first | intro _ | with_reducible refine And.intro ?_ ?_ | exact chkI (by kernel_rfl) | exact backI (by kernel_rfl) | (refine callA (by first | rfl | (simp; done) | (simp; rfl)) (c_rInst' ..) ?_ <;> try simp [hv]) | (refine callB (by first | rfl | (simp; done) | (simp; rfl)) (c_rInst' ..) ?_ <;> try simp [hv]) | (refine callA (by first | rfl | (simp; done) | (simp; rfl)) (c_rightRec' ..) ?_ <;> try simp [hv]) | (refine callB (by first | rfl | (simp; done) | (simp; rfl)) (c_rightRec' ..) ?_ <;> try simp [hv]) | (refine callA (by first | rfl | (simp; done) | (simp; rfl)) (c_rSize ..) ?_ <;> try simp [hv]) | (refine callB (by first | rfl | (simp; done) | (simp; rfl)) (c_rSize ..) ?_ <;> try simp [hv]) | (refine callA (by first | rfl | (simp; done) | (simp; rfl)) (c_rCounted ..) ?_ <;> try simp [hv]) | (refine callB (by first | rfl | (simp; done) | (simp; rfl)) (c_rCounted ..) ?_ <;> try simp [hv]) | fail)
      all_goals first
        | omega
        | (have hb : badV (szN f) ir is v = true := by
             simp only [badV, Bool.or_eq_true, decide_eq_true_eq, Bool.not_eq_true']
             first | (left; omega) | (right; assumption)
           rw [hb, Bool.true_or] at j2
           rw [e, if_pos j2]; done)
        | (have hb : badV (szN f) ir is v = false := by
             simp only [badV, Bool.or_eq_false_iff, decide_eq_false_iff_not, Bool.not_eq_false']
             exact And.intro (by omega) (by assumption)
           rw [hb, Bool.false_or] at j2
           exact Exists.intro (i + 1) (And.intro (by omega) (And.intro (And.intro (by omega) j2) (St.to_chk [] (by simp [hw])))))
    · rw [List.drop_eq_nil_of_le (by omega), List.any_nil] at j2
      rw [j2] at e
      simp [hi, w1]
      repeat' (first | intro _ | with_reducible refine And.intro ?_ ?_ | exact chkI (by kernel_rfl) | exact backI (by kernel_rfl) | (refine callA (by first | rfl | (simp; done) | (simp; rfl)) (c_rInst' ..) ?_ <;> try simp [w1]) | (refine callB (by first | rfl | (simp; done) | (simp; rfl)) (c_rInst' ..) ?_ <;> try simp [w1]) | (refine callA (by first | rfl | (simp; done) | (simp; rfl)) (c_rightRec' ..) ?_ <;> try simp [w1]) | (refine callB (by first | rfl | (simp; done) | (simp; rfl)) (c_rightRec' ..) ?_ <;> try simp [w1]) | (refine callA (by first | rfl | (simp; done) | (simp; rfl)) (c_rSize ..) ?_ <;> try simp [w1]) | (refine callB (by first | rfl | (simp; done) | (simp; rfl)) (c_rSize ..) ?_ <;> try simp [w1]) | (refine callA (by first | rfl | (simp; done) | (simp; rfl)) (c_rCounted ..) ?_ <;> try simp [w1]) | (refine callB (by first | rfl | (simp; done) | (simp; rfl)) (c_rCounted ..) ?_ <;> try simp [w1]) | fail)
      all_goals first | omega | (rw [e, if_neg (by simp)]; first | (rw [if_pos (by omega)]; done) | (rw [if_neg (by omega)]; done))
end Go.Proofs.Ytnchceblpogpmaa.AX
