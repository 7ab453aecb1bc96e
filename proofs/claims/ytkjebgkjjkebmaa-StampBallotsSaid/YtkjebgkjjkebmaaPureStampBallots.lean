/- Of any two ballots one goes ahead, or they are the same; the one of the greater number goes behind, whoever made it. -/
import Derived.Test.YtkjebgkjjkebmaaPStampBallotsx2
namespace Go.Proofs.Ytkjebgkjjkebmaa.PStampBallots
open Go.RowKit Go.Proofs.YtkjebgkjjkebmaaW.PrintWords Go.Proofs.YtkjebgkjjkebmaaW.PrintLast
set_option linter.unusedVariables false
set_option linter.unusedSimpArgs false

def ordv (a b c d : Int) : Int := if a < c then -1 else if a = c then (if b < d then -1 else if b = d then 0 else 1) else 1
theorem order_eq (k : Nat) (a b c d : Int) : stamp_order.f (k + 1) a b c d = some (ordv a b c d) := by
  unfold stamp_order.f ordv
  simp only [stamp_order.j0, decide_eq_true_eq]
  repeat' split
  all_goals first | rfl | omega | (exfalso; omega) | (exfalso; simp_all; done)
theorem cb_eq (k : Nat) (a b c d : Int) : stamp_CompareBallots.f (k + 1) a b c d = some (ordv a b c d) := by
  unfold stamp_CompareBallots.f
  rw [order_eq]; rfl
def rb (x y : Int) : Bool := decide (0 ≤ x) && decide (x ≤ 1099511627776) && decide (0 ≤ y) && decide (y ≤ 6)
def rs (x y : Int) : Bool := decide (0 ≤ x) && decide (x ≤ 1099511627776) && decide (0 ≤ y) && decide (y ≤ 3)
theorem rb_eq (x y : Int) : stamp_RightBallot.f x y = some (rb x y) := by
  by_cases h1 : 0 ≤ x <;> by_cases h2 : x ≤ 1099511627776 <;> by_cases h3 : 0 ≤ y <;> by_cases h4 : y ≤ 6 <;> simp [stamp_RightBallot.f, stamp_within_int.f, rb, h1, h2, h3, h4]
theorem rb_bd {x y : Int} (h : rb x y = true) : 0 ≤ x ∧ x ≤ 1099511627776 ∧ 0 ≤ y ∧ y ≤ 6 := by
  simpa [rb, and_assoc] using h
theorem rs_bd {x y : Int} (h : rs x y = true) : 0 ≤ x ∧ x ≤ 1099511627776 ∧ 0 ≤ y ∧ y ≤ 3 := by
  simpa [rs, and_assoc] using h
def nb (n r who : Int) : Int × Int × Int := if rb n r = true then (if rb n who = true then (if n = 1099511627776 then (0, 0, 2) else (n + 1, who, 0)) else (0, 0, 1)) else (0, 0, 1)
def ns (n r who : Int) : Int × Int × Int := if rs n r = true then (if rs n who = true then (if n = 1099511627776 then (0, 0, 2) else (n + 1, who, 0)) else (0, 0, 1)) else (0, 0, 1)
theorem nb_eq (k : Nat) (n r who : Int) : stamp_NextBallot.f (k + 1) n r who = some (nb n r who) := by
  unfold stamp_NextBallot.f nb
  rw [rb_eq, rb_eq]
  simp only [stamp_NextBallot.j0, Option.bind_some]
  by_cases h : rb n r = true
  · have b := rb_bd h
    have w : wrap64 (n + 1) = n + 1 := by unfold wrap64; omega
    by_cases h' : rb n who = true
    · simp only [h, h', w, if_true, Bool.not_true, Bool.false_eq_true, if_false]
      split <;> rfl
    · simp only [Bool.not_eq_true] at h'
      simp [h, h']
  · simp only [Bool.not_eq_true] at h
    simp [h]
theorem awake_eq (k : Nat) : althinglaw02_awake.f (k + 1) = some true := by
  unfold althinglaw02_awake.f
  rw [nb_eq, cb_eq]
  decide +kernel

theorem pure_StampBallots (x0_0 x0_1 x1_0 x1_1 : Int) : althinglaw02_StampBallots.f 1 x0_0 x0_1 x1_0 x1_1 = some true := by
  unfold althinglaw02_StampBallots.f
  rw [cb_eq, cb_eq, awake_eq]
  simp only [Option.bind_some]
  have key : ordv x0_0 x0_1 x1_0 x1_1 = wrap64 (-ordv x1_0 x1_1 x0_0 x0_1) ∧ ((ordv x0_0 x0_1 x1_0 x1_1 == 0) != (x0_0 == x1_0 && (x0_1 == x1_1))) = false ∧ (x0_0 ≥ x1_0 ∨ ordv x0_0 x0_1 x1_0 x1_1 = -1) ∧ (x0_0 ≤ x1_0 ∨ ordv x0_0 x0_1 x1_0 x1_1 = 1) := by
    have w1 : wrap64 1 = 1 := by decide +kernel
    have w2 : wrap64 (-1) = -1 := by decide +kernel
    have w3 : wrap64 0 = 0 := by decide +kernel
    rcases Int.lt_trichotomy x0_0 x1_0 with h | h | h <;> rcases Int.lt_trichotomy x0_1 x1_1 with h' | h' | h'
    all_goals
      have f1 : ¬ x1_0 < x0_0 ∨ x1_0 < x0_0 := by omega
      simp only [ordv]
      refine ⟨?_, ?_, ?_, ?_⟩
    all_goals first
      | omega
      | (repeat' split) <;> first | omega | (simp [w1, w2, w3]; done) | (exfalso; omega)
      | (have e1 : (x0_0 == x1_0) = false := by simpa using (by omega : ¬ x0_0 = x1_0)
         have e2 : (x0_1 == x1_1) = decide (x0_1 = x1_1) := rfl
         repeat' split
         all_goals first | (simp [e1]; done) | (exfalso; omega))
      | (have e1 : (x0_0 == x1_0) = true := by simpa using h
         have e2 : (x0_1 == x1_1) = false := by simpa using (by omega : ¬ x0_1 = x1_1)
         repeat' split
         all_goals first | (simp [e1, e2]; done) | (exfalso; omega))
      | (have e1 : (x0_0 == x1_0) = true := by simpa using h
         have e2 : (x0_1 == x1_1) = true := by simpa using h'
         repeat' split
         all_goals first | (simp [e1, e2]; done) | (exfalso; omega))
  obtain ⟨k1, k2, k3, k4⟩ := key
  rw [if_pos k1, k2]
  simp only [Bool.false_eq_true, if_false]
  rcases k3 with h | h <;> rcases k4 with g | g <;> simp [h, g]
  all_goals (repeat' split) <;> first | rfl | omega
/-- The law's function answers true, and nothing below the heap's old end turns. -/
theorem walk (x0_0 x0_1 x1_0 x1_1 : Int) (W : World) (h0 : (Lit.int .i64 x0_0).wf = true) (h1 : (Lit.int .i64 x0_1).wf = true) (h2 : (Lit.int .i64 x1_0).wf = true) (h3 : (Lit.int .i64 x1_1).wf = true) :
    Calls Try.prog 3 #[.agg #[.int .i64 x0_0, .int .i64 x0_1], .agg #[.int .i64 x1_0, .int .i64 x1_1]] W fun e w' => e = .returned (.bool true) ∧ Below W.heap.size W w' := by
  refine (althinglaw02_StampBallots.calls 1 x0_0 x0_1 x1_0 x1_1 true W (pure_StampBallots x0_0 x0_1 x1_0 x1_1)).mono ?_
  rintro e w' ⟨rfl, hd⟩
  exact ⟨rfl, hd⟩
end Go.Proofs.Ytkjebgkjjkebmaa.PStampBallots
