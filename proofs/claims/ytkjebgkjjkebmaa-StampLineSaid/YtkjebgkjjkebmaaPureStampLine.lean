/- Any three times stand in one line: the order is the same both ways, and goes through. -/
import Derived.Test.YtkjebgkjjkebmaaPStampLineOwn
namespace Go.Proofs.Ytkjebgkjjkebmaa.PStampLine
open Go.RowKit Go.Proofs.YtkjebgkjjkebmaaW.PrintWords Go.Proofs.YtkjebgkjjkebmaaW.PrintLast
set_option linter.unusedVariables false
set_option linter.unusedSimpArgs false

def ordv (a b c d : Int) : Int := if a < c then -1 else if a = c then (if b < d then -1 else if b = d then 0 else 1) else 1
theorem order_eq (k : Nat) (a b c d : Int) : stamp_order.f (k + 1) a b c d = some (ordv a b c d) := by
  unfold stamp_order.f ordv
  simp only [stamp_order.j0, decide_eq_true_eq]
  repeat' split
  all_goals first | rfl | omega | (exfalso; omega) | (exfalso; simp_all; done)
theorem cb_eq (k : Nat) (a b c d : Int) : stamp_CompareBallots.f (k + 1) a b c d = some (ordv a b c d) := by
  unfold stamp_CompareBallots.f
  rw [order_eq]; rfl
def rb (x y : Int) : Bool := decide (0 ≤ x) && decide (x ≤ 1099511627776) && decide (0 ≤ y) && decide (y ≤ 6)
def rs (x y : Int) : Bool := decide (0 ≤ x) && decide (x ≤ 1099511627776) && decide (0 ≤ y) && decide (y ≤ 3)
theorem rb_eq (x y : Int) : stamp_RightBallot.f x y = some (rb x y) := by
  by_cases h1 : 0 ≤ x <;> by_cases h2 : x ≤ 1099511627776 <;> by_cases h3 : 0 ≤ y <;> by_cases h4 : y ≤ 6 <;> simp [stamp_RightBallot.f, stamp_within_int.f, rb, h1, h2, h3, h4]
theorem rb_bd {x y : Int} (h : rb x y = true) : 0 ≤ x ∧ x ≤ 1099511627776 ∧ 0 ≤ y ∧ y ≤ 6 := by
  simpa [rb, and_assoc] using h
theorem rs_bd {x y : Int} (h : rs x y = true) : 0 ≤ x ∧ x ≤ 1099511627776 ∧ 0 ≤ y ∧ y ≤ 3 := by
  simpa [rs, and_assoc] using h
def nb (n r who : Int) : Int × Int × Int := if rb n r = true then (if rb n who = true then (if n = 1099511627776 then (0, 0, 2) else (n + 1, who, 0)) else (0, 0, 1)) else (0, 0, 1)
def ns (n r who : Int) : Int × Int × Int := if rs n r = true then (if rs n who = true then (if n = 1099511627776 then (0, 0, 2) else (n + 1, who, 0)) else (0, 0, 1)) else (0, 0, 1)
theorem nb_eq (k : Nat) (n r who : Int) : stamp_NextBallot.f (k + 1) n r who = some (nb n r who) := by
  unfold stamp_NextBallot.f nb
  rw [rb_eq, rb_eq]
  simp only [stamp_NextBallot.j0, Option.bind_some]
  by_cases h : rb n r = true
  · have b := rb_bd h
    have w : wrap64 (n + 1) = n + 1 := by unfold wrap64; omega
    by_cases h' : rb n who = true
    · simp only [h, h', w, if_true, Bool.not_true, Bool.false_eq_true, if_false]
      split <;> rfl
    · simp only [Bool.not_eq_true] at h'
      simp [h, h']
  · simp only [Bool.not_eq_true] at h
    simp [h]
theorem awake_eq (k : Nat) : althinglaw02_awake.f (k + 1) = some true := by
  unfold althinglaw02_awake.f
  rw [nb_eq, cb_eq]
  decide +kernel

theorem cs_eq (k : Nat) (a b c d : Int) : stamp_CompareStamps.f (k + 1) a b c d = some (ordv a b c d) := by
  unfold stamp_CompareStamps.f
  rw [order_eq]; rfl

theorem ordv_vals (a b c d : Int) : (ordv a b c d = -1 ∧ (a < c ∨ a = c ∧ b < d)) ∨ (ordv a b c d = 0 ∧ a = c ∧ b = d) ∨ (ordv a b c d = 1 ∧ (c < a ∨ a = c ∧ d < b)) := by
  unfold ordv
  repeat' split
  all_goals omega

theorem pure_StampLine (x0_0 x0_1 x1_0 x1_1 x2_0 x2_1 : Int) : althinglaw02_StampLine.f 1 x0_0 x0_1 x1_0 x1_1 x2_0 x2_1 = some true := by
  unfold althinglaw02_StampLine.f
  simp only [cs_eq, Option.bind_some, awake_eq]
  have w1 : wrap64 1 = 1 := by decide +kernel
  have w2 : wrap64 (-1) = -1 := by decide +kernel
  have w3 : wrap64 0 = 0 := by decide +kernel
  have key1 : ordv x1_0 x1_1 x0_0 x0_1 = wrap64 (-ordv x0_0 x0_1 x1_0 x1_1) := by
    rcases ordv_vals x0_0 x0_1 x1_0 x1_1 with ⟨h, h'⟩ | ⟨h, h'⟩ | ⟨h, h'⟩ <;> rcases ordv_vals x1_0 x1_1 x0_0 x0_1 with ⟨g, g'⟩ | ⟨g, g'⟩ | ⟨g, g'⟩ <;> rw [h, g]
    all_goals first | exact w1.symm | exact w2.symm | exact w3.symm | (exfalso; omega)
  have key2 : ((ordv x0_0 x0_1 x1_0 x1_1 == 0) != (x0_0 == x1_0 && (x0_1 == x1_1))) = false := by
    rcases ordv_vals x0_0 x0_1 x1_0 x1_1 with ⟨h, h'⟩ | ⟨h, h'⟩ | ⟨h, h'⟩
    · have e : (x0_0 == x1_0 && (x0_1 == x1_1)) = false := by
        rw [Bool.and_eq_false_iff]; simp only [beq_eq_false_iff_ne]; omega
      rw [h, e]; rfl
    · obtain ⟨rfl, rfl⟩ := h'
      rw [h]; simp
    · have e : (x0_0 == x1_0 && (x0_1 == x1_1)) = false := by
        rw [Bool.and_eq_false_iff]; simp only [beq_eq_false_iff_ne]; omega
      rw [h, e]; rfl
  rw [if_pos key1, key2]
  simp only [Bool.false_eq_true, if_false]
  rcases ordv_vals x0_0 x0_1 x1_0 x1_1 with ⟨h, h'⟩ | ⟨h, h'⟩ | ⟨h, h'⟩ <;> rcases ordv_vals x1_0 x1_1 x2_0 x2_1 with ⟨g, g'⟩ | ⟨g, g'⟩ | ⟨g, g'⟩ <;> rcases ordv_vals x0_0 x0_1 x2_0 x2_1 with ⟨f, f'⟩ | ⟨f, f'⟩ | ⟨f, f'⟩ <;> rw [h, g, f]
  all_goals first | (exfalso; omega) | (simp; done)
/-- The law's function answers true, and nothing below the heap's old end turns. -/
theorem walk (x0_0 x0_1 x1_0 x1_1 x2_0 x2_1 : Int) (W : World) (h0 : (Lit.int .i64 x0_0).wf = true) (h1 : (Lit.int .i64 x0_1).wf = true) (h2 : (Lit.int .i64 x1_0).wf = true) (h3 : (Lit.int .i64 x1_1).wf = true) (h4 : (Lit.int .i64 x2_0).wf = true) (h5 : (Lit.int .i64 x2_1).wf = true) :
    Calls Try.prog 4 #[.agg #[.int .i64 x0_0, .int .i64 x0_1], .agg #[.int .i64 x1_0, .int .i64 x1_1], .agg #[.int .i64 x2_0, .int .i64 x2_1]] W fun e w' => e = .returned (.bool true) ∧ Below W.heap.size W w' := by
  refine (althinglaw02_StampLine.calls 1 x0_0 x0_1 x1_0 x1_1 x2_0 x2_1 true W rfl (pure_StampLine x0_0 x0_1 x1_0 x1_1 x2_0 x2_1)).mono ?_
  rintro e w' ⟨rfl, hd⟩
  exact ⟨rfl, hd⟩
end Go.Proofs.Ytkjebgkjjkebmaa.PStampLine
