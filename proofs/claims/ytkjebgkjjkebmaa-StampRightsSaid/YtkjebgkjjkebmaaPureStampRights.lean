/- Whether any ballot, time, name and instance may be is the reference's answer. -/
import Derived.Test.YtkjebgkjjkebmaaPStampRightsx3
namespace Go.Proofs.Ytkjebgkjjkebmaa.PStampRights
open Go.RowKit Go.Proofs.YtkjebgkjjkebmaaW.PrintWords Go.Proofs.YtkjebgkjjkebmaaW.PrintLast
set_option linter.unusedVariables false
set_option linter.unusedSimpArgs false

def ordv (a b c d : Int) : Int := if a < c then -1 else if a = c then (if b < d then -1 else if b = d then 0 else 1) else 1
theorem order_eq (k : Nat) (a b c d : Int) : stamp_order.f (k + 1) a b c d = some (ordv a b c d) := by
  unfold stamp_order.f ordv
  simp only [stamp_order.j0, decide_eq_true_eq]
  repeat' split
  all_goals first | rfl | omega | (exfalso; omega) | (exfalso; simp_all; done)
theorem cb_eq (k : Nat) (a b c d : Int) : stamp_CompareBallots.f (k + 1) a b c d = some (ordv a b c d) := by
  unfold stamp_CompareBallots.f
  rw [order_eq]; rfl
def rb (x y : Int) : Bool := decide (0 ≤ x) && decide (x ≤ 1099511627776) && decide (0 ≤ y) && decide (y ≤ 6)
def rs (x y : Int) : Bool := decide (0 ≤ x) && decide (x ≤ 1099511627776) && decide (0 ≤ y) && decide (y ≤ 3)
theorem rb_eq (x y : Int) : stamp_RightBallot.f x y = some (rb x y) := by
  by_cases h1 : 0 ≤ x <;> by_cases h2 : x ≤ 1099511627776 <;> by_cases h3 : 0 ≤ y <;> by_cases h4 : y ≤ 6 <;> simp [stamp_RightBallot.f, stamp_within_int.f, rb, h1, h2, h3, h4]
theorem rb_bd {x y : Int} (h : rb x y = true) : 0 ≤ x ∧ x ≤ 1099511627776 ∧ 0 ≤ y ∧ y ≤ 6 := by
  simpa [rb, and_assoc] using h
theorem rs_bd {x y : Int} (h : rs x y = true) : 0 ≤ x ∧ x ≤ 1099511627776 ∧ 0 ≤ y ∧ y ≤ 3 := by
  simpa [rs, and_assoc] using h
def nb (n r who : Int) : Int × Int × Int := if rb n r = true then (if rb n who = true then (if n = 1099511627776 then (0, 0, 2) else (n + 1, who, 0)) else (0, 0, 1)) else (0, 0, 1)
def ns (n r who : Int) : Int × Int × Int := if rs n r = true then (if rs n who = true then (if n = 1099511627776 then (0, 0, 2) else (n + 1, who, 0)) else (0, 0, 1)) else (0, 0, 1)
theorem nb_eq (k : Nat) (n r who : Int) : stamp_NextBallot.f (k + 1) n r who = some (nb n r who) := by
  unfold stamp_NextBallot.f nb
  rw [rb_eq, rb_eq]
  simp only [stamp_NextBallot.j0, Option.bind_some]
  by_cases h : rb n r = true
  · have b := rb_bd h
    have w : wrap64 (n + 1) = n + 1 := by unfold wrap64; omega
    by_cases h' : rb n who = true
    · simp only [h, h', w, if_true, Bool.not_true, Bool.false_eq_true, if_false]
      split <;> rfl
    · simp only [Bool.not_eq_true] at h'
      simp [h, h']
  · simp only [Bool.not_eq_true] at h
    simp [h]
theorem awake_eq (k : Nat) : althinglaw02_awake.f (k + 1) = some true := by
  unfold althinglaw02_awake.f
  rw [nb_eq, cb_eq]
  decide +kernel

theorem rs_eq (x y : Int) : stamp_RightStamp.f x y = some (rs x y) := by
  by_cases h1 : 0 ≤ x <;> by_cases h2 : x ≤ 1099511627776 <;> by_cases h3 : 0 ≤ y <;> by_cases h4 : y ≤ 3 <;> simp [stamp_RightStamp.f, stamp_within_int.f, rs, h1, h2, h3, h4]

theorem ref_rb_eq (x y : Int) : althingref02_RightBallot.f x y = some (rb x y) := by
  by_cases h1 : 0 ≤ x <;> by_cases h2 : x ≤ 1099511627776 <;> by_cases h3 : 0 ≤ y <;> by_cases h4 : y ≤ 6 <;> simp [althingref02_RightBallot.f, rb, h1, h2, h3, h4]
theorem ref_rs_eq (x y : Int) : althingref02_RightStamp.f x y = some (rs x y) := by
  by_cases h1 : 0 ≤ x <;> by_cases h2 : x ≤ 1099511627776 <;> by_cases h3 : 0 ≤ y <;> by_cases h4 : y ≤ 3 <;> simp [althingref02_RightStamp.f, rs, h1, h2, h3, h4]
def rt (x y : Int) : Bool := decide (0 ≤ x) && decide (x ≤ 3) && decide (1 ≤ y) && decide (y ≤ 1099511627776)
def ri (x y : Int) : Bool := decide (0 ≤ x) && decide (x ≤ 6) && decide (1 ≤ y) && decide (y ≤ 1048576)
theorem rt_eq (x y : Int) : stamp_RightTxn.f x y = some (rt x y) := by
  by_cases h1 : 0 ≤ x <;> by_cases h2 : x ≤ 3 <;> by_cases h3 : 1 ≤ y <;> by_cases h4 : y ≤ 1099511627776 <;> simp [stamp_RightTxn.f, stamp_within_int.f, rt, h1, h2, h3, h4]
theorem ref_rt_eq (x y : Int) : althingref02_RightTxn.f x y = some (rt x y) := by
  by_cases h1 : 0 ≤ x <;> by_cases h2 : x ≤ 3 <;> by_cases h3 : 1 ≤ y <;> by_cases h4 : y ≤ 1099511627776 <;> simp [althingref02_RightTxn.f, rt, h1, h2, h3, h4]
theorem ri_eq (x y : Int) : stamp_RightInst.f x y = some (ri x y) := by
  by_cases h1 : 0 ≤ x <;> by_cases h2 : x ≤ 6 <;> by_cases h3 : 1 ≤ y <;> by_cases h4 : y ≤ 1048576 <;> simp [stamp_RightInst.f, stamp_within_int.f, ri, h1, h2, h3, h4]
theorem ref_ri_eq (x y : Int) : althingref02_RightInst.f x y = some (ri x y) := by
  by_cases h1 : 0 ≤ x <;> by_cases h2 : x ≤ 6 <;> by_cases h3 : 1 ≤ y <;> by_cases h4 : y ≤ 1048576 <;> simp [althingref02_RightInst.f, ri, h1, h2, h3, h4]

theorem pure_StampRights (x0_0 x0_1 x1_0 x1_1 x2_0 x2_1 x3_0 x3_1 : Int) : althinglaw02_StampRights.f 1 x0_0 x0_1 x1_0 x1_1 x2_0 x2_1 x3_0 x3_1 = some true := by
  unfold althinglaw02_StampRights.f
  rw [rb_eq, ref_rb_eq, rs_eq, ref_rs_eq, rt_eq, ref_rt_eq, ri_eq, ref_ri_eq, awake_eq]
  simp only [Option.bind_some, beq_self_eq_true, if_true]
/-- The law's function answers true, and nothing below the heap's old end turns. -/
theorem walk (x0_0 x0_1 x1_0 x1_1 x2_0 x2_1 x3_0 x3_1 : Int) (W : World) (h0 : (Lit.int .i64 x0_0).wf = true) (h1 : (Lit.int .i64 x0_1).wf = true) (h2 : (Lit.int .i64 x1_0).wf = true) (h3 : (Lit.int .i64 x1_1).wf = true) (h4 : (Lit.int .i64 x2_0).wf = true) (h5 : (Lit.int .i64 x2_1).wf = true) (h6 : (Lit.int .i64 x3_0).wf = true) (h7 : (Lit.int .i64 x3_1).wf = true) :
    Calls Try.prog 6 #[.agg #[.int .i64 x0_0, .int .i64 x0_1], .agg #[.int .i64 x1_0, .int .i64 x1_1], .agg #[.int .i64 x2_0, .int .i64 x2_1], .agg #[.int .i64 x3_0, .int .i64 x3_1]] W fun e w' => e = .returned (.bool true) ∧ Below W.heap.size W w' := by
  refine (althinglaw02_StampRights.calls 1 x0_0 x0_1 x1_0 x1_1 x2_0 x2_1 x3_0 x3_1 true W (pure_StampRights x0_0 x0_1 x1_0 x1_1 x2_0 x2_1 x3_0 x3_1)).mono ?_
  rintro e w' ⟨rfl, hd⟩
  exact ⟨rfl, hd⟩
end Go.Proofs.Ytkjebgkjjkebmaa.PStampRights
