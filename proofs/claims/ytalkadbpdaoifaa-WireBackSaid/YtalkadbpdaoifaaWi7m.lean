/- Messages that may be. -/
import Derived.Test.YtalkadbpdaoifaaWi7
namespace Go.Proofs.Ytalkadbpdaoifaa.AX
open Go Go.RowKit
set_option linter.unusedSimpArgs false
set_option linter.unusedVariables false
set_option maxRecDepth 100000
set_option maxHeartbeats 4000000
def Msg.right (m : Msg) : Bool := decide (1 ≤ m.kind ∧ m.kind ≤ 8) && (decide (0 ≤ m.fr ∧ m.fr ≤ 6) && (decide (0 ≤ m.to ∧ m.to ≤ 6) && (okBal m.bn m.br && m.r.right)))
theorem c_rightMsg (m : Msg) (hc : m.r.c.Small := by assumption) : Pure Try.prog 14 [.agg m.cs] (.bool m.right) := by
  refine pureQ_of_aw dOk Try.func14 rfl rfl rfl rfl rfl ?_
  simp [Try.f14]
  repeat' (first | intro _ | with_reducible refine And.intro ?_ ?_ | exact chkI (by kernel_rfl) | exact backI (by kernel_rfl) | (refine callA (by first | rfl | (simp; done) | (simp; rfl)) (c_within2 ..) ?_ <;> try simp) | (refine callB (by first | rfl | (simp; done) | (simp; rfl)) (c_within2 ..) ?_ <;> try simp) | (refine callA (by first | rfl | (simp; done) | (simp; rfl)) (c_rBal ..) ?_ <;> try simp) | (refine callB (by first | rfl | (simp; done) | (simp; rfl)) (c_rBal ..) ?_ <;> try simp) | (refine callA (by first | rfl | (simp; done) | (simp; rfl)) (c_rightRec ..) ?_ <;> try simp) | (refine callB (by first | rfl | (simp; done) | (simp; rfl)) (c_rightRec ..) ?_ <;> try simp) | fail)
  all_goals (simp only [Msg.right]; grind)
theorem c_rightMsg' (m : Msg) (hc : m.r.c.Small := by assumption) : Pure Try.prog 15 [.agg m.cs] (.bool m.right) := by
  refine pureQ_of_aw dOk Try.func15 rfl rfl rfl rfl rfl ?_
  simp [Try.f15]
  repeat' (first | intro _ | with_reducible refine And.intro ?_ ?_ | exact chkI (by kernel_rfl) | exact backI (by kernel_rfl) | (refine callA (by first | rfl | (simp; done) | (simp; rfl)) (c_rBal' ..) ?_ <;> try simp) | (refine callB (by first | rfl | (simp; done) | (simp; rfl)) (c_rBal' ..) ?_ <;> try simp) | (refine callA (by first | rfl | (simp; done) | (simp; rfl)) (c_rightRec' ..) ?_ <;> try simp) | (refine callB (by first | rfl | (simp; done) | (simp; rfl)) (c_rightRec' ..) ?_ <;> try simp) | fail)
  all_goals (simp only [Msg.right]; grind)
end Go.Proofs.Ytalkadbpdaoifaa.AX
