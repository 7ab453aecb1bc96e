/- The next time of a next time is behind both, of whoever; a time that goes on for ever ends at the last number. -/
import Derived.Test.YtkjebgkjjkebmaaPStampStepsx4
namespace Go.Proofs.Ytkjebgkjjkebmaa.PStampSteps
open Go.RowKit Go.Proofs.YtkjebgkjjkebmaaW.PrintWords Go.Proofs.YtkjebgkjjkebmaaW.PrintLast
set_option linter.unusedVariables false
set_option linter.unusedSimpArgs false

def ordv (a b c d : Int) : Int := if a < c then -1 else if a = c then (if b < d then -1 else if b = d then 0 else 1) else 1
theorem order_eq (k : Nat) (a b c d : Int) : stamp_order.f (k + 1) a b c d = some (ordv a b c d) := by
  unfold stamp_order.f ordv
  simp only [stamp_order.j0, decide_eq_true_eq]
  repeat' split
  all_goals first | rfl | omega | (exfalso; omega) | (exfalso; simp_all; done)
theorem cb_eq (k : Nat) (a b c d : Int) : stamp_CompareBallots.f (k + 1) a b c d = some (ordv a b c d) := by
  unfold stamp_CompareBallots.f
  rw [order_eq]; rfl
def rb (x y : Int) : Bool := decide (0 ≤ x) && decide (x ≤ 1099511627776) && decide (0 ≤ y) && decide (y ≤ 6)
def rs (x y : Int) : Bool := decide (0 ≤ x) && decide (x ≤ 1099511627776) && decide (0 ≤ y) && decide (y ≤ 3)
theorem rb_eq (x y : Int) : stamp_RightBallot.f x y = some (rb x y) := by
  by_cases h1 : 0 ≤ x <;> by_cases h2 : x ≤ 1099511627776 <;> by_cases h3 : 0 ≤ y <;> by_cases h4 : y ≤ 6 <;> simp [stamp_RightBallot.f, stamp_within_int.f, rb, h1, h2, h3, h4]
theorem rb_bd {x y : Int} (h : rb x y = true) : 0 ≤ x ∧ x ≤ 1099511627776 ∧ 0 ≤ y ∧ y ≤ 6 := by
  simpa [rb, and_assoc] using h
theorem rs_bd {x y : Int} (h : rs x y = true) : 0 ≤ x ∧ x ≤ 1099511627776 ∧ 0 ≤ y ∧ y ≤ 3 := by
  simpa [rs, and_assoc] using h
def nb (n r who : Int) : Int × Int × Int := if rb n r = true then (if rb n who = true then (if n = 1099511627776 then (0, 0, 2) else (n + 1, who, 0)) else (0, 0, 1)) else (0, 0, 1)
def ns (n r who : Int) : Int × Int × Int := if rs n r = true then (if rs n who = true then (if n = 1099511627776 then (0, 0, 2) else (n + 1, who, 0)) else (0, 0, 1)) else (0, 0, 1)
theorem nb_eq (k : Nat) (n r who : Int) : stamp_NextBallot.f (k + 1) n r who = some (nb n r who) := by
  unfold stamp_NextBallot.f nb
  rw [rb_eq, rb_eq]
  simp only [stamp_NextBallot.j0, Option.bind_some]
  by_cases h : rb n r = true
  · have b := rb_bd h
    have w : wrap64 (n + 1) = n + 1 := by unfold wrap64; omega
    by_cases h' : rb n who = true
    · simp only [h, h', w, if_true, Bool.not_true, Bool.false_eq_true, if_false]
      split <;> rfl
    · simp only [Bool.not_eq_true] at h'
      simp [h, h']
  · simp only [Bool.not_eq_true] at h
    simp [h]
theorem awake_eq (k : Nat) : althinglaw02_awake.f (k + 1) = some true := by
  unfold althinglaw02_awake.f
  rw [nb_eq, cb_eq]
  decide +kernel

theorem cs_eq (k : Nat) (a b c d : Int) : stamp_CompareStamps.f (k + 1) a b c d = some (ordv a b c d) := by
  unfold stamp_CompareStamps.f
  rw [order_eq]; rfl

theorem rs_eq (x y : Int) : stamp_RightStamp.f x y = some (rs x y) := by
  by_cases h1 : 0 ≤ x <;> by_cases h2 : x ≤ 1099511627776 <;> by_cases h3 : 0 ≤ y <;> by_cases h4 : y ≤ 3 <;> simp [stamp_RightStamp.f, stamp_within_int.f, rs, h1, h2, h3, h4]

theorem ns_eq (k : Nat) (n r who : Int) : stamp_NextStamp.f (k + 1) n r who = some (ns n r who) := by
  unfold stamp_NextStamp.f ns
  rw [rs_eq, rs_eq]
  simp only [stamp_NextStamp.j0, Option.bind_some]
  by_cases h : rs n r = true
  · have b := rs_bd h
    have w : wrap64 (n + 1) = n + 1 := by unfold wrap64; omega
    by_cases e : who = r
    · subst e
      simp only [h, w, if_true, beq_self_eq_true, Bool.not_true, Bool.false_eq_true, if_false]
      split <;> rfl
    · have e' : (who == r) = false := by simpa using e
      by_cases h' : rs n who = true
      · simp only [h, h', w, e', if_true, Bool.not_true, Bool.not_false, Bool.false_eq_true, if_false]
        split <;> rfl
      · simp only [Bool.not_eq_true] at h'
        simp [h, h', e']
  · simp only [Bool.not_eq_true] at h
    simp [h]

theorem pure_StampSteps (x0_0 x0_1 x1 x2 : Int) : althinglaw02_StampSteps.f 1 x0_0 x0_1 x1 x2 = some true := by
  unfold althinglaw02_StampSteps.f
  simp only [ns_eq, Option.bind_some, cs_eq, awake_eq]
  by_cases h : rs x0_0 x0_1 = true
  · have b := rs_bd h
    by_cases h' : rs x0_0 x1 = true
    · have b' := rs_bd h'
      by_cases e : x0_0 = 1099511627776
      · have e1 : ns x0_0 x0_1 x1 = (0, 0, 2) := by unfold ns; rw [if_pos h, if_pos h', if_pos e]
        rw [e1]; simp
      · have e1 : ns x0_0 x0_1 x1 = (x0_0 + 1, x1, 0) := by simp [ns, h, h', e]
        have e2 : rs (x0_0 + 1) x1 = true := by simp [rs]; omega
        rw [e1]
        simp only [if_true]
        by_cases g : rs (x0_0 + 1) x2 = true
        · have bg := rs_bd g
          by_cases e5 : x0_0 + 1 = 1099511627776
          · have e4 : ns (x0_0 + 1) x1 x2 = (0, 0, 2) := by unfold ns; rw [if_pos e2, if_pos g, if_pos e5]
            rw [e4]; simp [e5]
          · have e4 : ns (x0_0 + 1) x1 x2 = (x0_0 + 1 + 1, x2, 0) := by simp [ns, e2, g, e5]
            have e6 : ordv x0_0 x0_1 (x0_0 + 1 + 1) x2 = -1 := by unfold ordv; rw [if_pos (by omega)]
            have e7 : ordv (x0_0 + 1) x1 (x0_0 + 1 + 1) x2 = -1 := by unfold ordv; rw [if_pos (by omega)]
            have w : wrap64 (x0_0 + 1 + 1) = x0_0 + 1 + 1 := by unfold wrap64; omega
            rw [e4]; simp [e6, e7, w]
        · have g' : rs (x0_0 + 1) x2 = false := by simpa using g
          have e4 : ns (x0_0 + 1) x1 x2 = (0, 0, 1) := by simp [ns, e2, g']
          rw [e4]
          have e8 : x2 < 0 ∨ x2 > 3 := by
            simp [rs] at g
            omega
          rcases e8 with e8 | e8
          · simp [e8]
          · simp [e8]
    · simp only [Bool.not_eq_true] at h'
      have e1 : ns x0_0 x0_1 x1 = (0, 0, 1) := by simp [ns, h, h']
      rw [e1]; simp
  · simp only [Bool.not_eq_true] at h
    have e1 : ns x0_0 x0_1 x1 = (0, 0, 1) := by simp [ns, h]
    rw [e1]; simp
/-- The law's function answers true, and nothing below the heap's old end turns. -/
theorem walk (x0_0 x0_1 x1 x2 : Int) (W : World) (h0 : (Lit.int .i64 x0_0).wf = true) (h1 : (Lit.int .i64 x0_1).wf = true) (h2 : (Lit.int .i64 x1).wf = true) (h3 : (Lit.int .i64 x2).wf = true) :
    Calls Try.prog 9 #[.agg #[.int .i64 x0_0, .int .i64 x0_1], .int .i64 x1, .int .i64 x2] W fun e w' => e = .returned (.bool true) ∧ Below W.heap.size W w' := by
  refine (althinglaw02_StampSteps.calls 1 x0_0 x0_1 x1 x2 true W (pure_StampSteps x0_0 x0_1 x1 x2)).mono ?_
  rintro e w' ⟨rfl, hd⟩
  exact ⟨rfl, hd⟩
end Go.Proofs.Ytkjebgkjjkebmaa.PStampSteps
