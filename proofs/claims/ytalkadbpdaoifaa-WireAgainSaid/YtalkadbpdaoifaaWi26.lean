/- A record out of something, or a panic. -/
import Derived.Test.YtalkadbpdaoifaaWi19
import Derived.Test.YtalkadbpdaoifaaWi20
namespace Go.Proofs.Ytalkadbpdaoifaa.AX
open Go Go.RowKit
set_option linter.unusedSimpArgs false
set_option linter.unusedVariables false
set_option maxRecDepth 100000
set_option maxHeartbeats 4000000
theorem c_must (r : Rec) : Pure Try.prog 26 [.ifc 37 (.agg r.cs)] (.agg r.cs) := by
  refine pureQ_of_aw dOk Try.func26 rfl rfl rfl rfl rfl ?_
  simp [Try.f26]
  repeat' (first | intro _ | with_reducible refine And.intro ?_ ?_ | exact chkI (by kernel_rfl) | exact backI (by kernel_rfl) | fail)
theorem c_isRec (r : Rec) : Pure Try.prog 24 [.ifc 37 (.agg r.cs)] (.tup [.agg r.cs, .bool true]) := by
  refine pureQ_of_aw dOk Try.func24 rfl rfl rfl rfl rfl ?_
  simp [Try.f24]
  repeat' (first | intro _ | with_reducible refine And.intro ?_ ?_ | exact chkI (by kernel_rfl) | exact backI (by kernel_rfl) | fail)
@[simp] def zeroRec : List V := [i64 0, i64 0, i64 0, i64 0, i64 0, i64 0, i64 0, i64 0, i64 0, i64 0, i64 0, i64 0, i64 0, .sl [], .sl [], .bool false, i64 0, i64 0, i64 0, i64 0, i64 0, i64 0, i64 0, i64 0, .bool false]
theorem c_noRecI (n : Int) : Pure Try.prog 24 [.ifc 3 (i64 n)] (.tup [.agg zeroRec, .bool false]) := by
  refine pureQ_of_aw dOk Try.func24 rfl rfl rfl rfl rfl ?_
  simp [Try.f24]
  repeat' (first | intro _ | with_reducible refine And.intro ?_ ?_ | exact chkI (by kernel_rfl) | exact backI (by kernel_rfl) | (refine callA (by first | rfl | (simp; done) | (simp; rfl)) (c_isRec ..) ?_ <;> try simp) | (refine callB (by first | rfl | (simp; done) | (simp; rfl)) (c_isRec ..) ?_ <;> try simp) | fail)
theorem c_noRecC (c : Cmd) : Pure Try.prog 24 [.ifc 33 (.agg c.cs)] (.tup [.agg zeroRec, .bool false]) := by
  refine pureQ_of_aw dOk Try.func24 rfl rfl rfl rfl rfl ?_
  simp [Try.f24]
  repeat' (first | intro _ | with_reducible refine And.intro ?_ ?_ | exact chkI (by kernel_rfl) | exact backI (by kernel_rfl) | (refine callA (by first | rfl | (simp; done) | (simp; rfl)) (c_noRecI ..) ?_ <;> try simp) | (refine callB (by first | rfl | (simp; done) | (simp; rfl)) (c_noRecI ..) ?_ <;> try simp) | (refine callA (by first | rfl | (simp; done) | (simp; rfl)) (c_isRec ..) ?_ <;> try simp) | (refine callB (by first | rfl | (simp; done) | (simp; rfl)) (c_isRec ..) ?_ <;> try simp) | fail)
theorem c_noRecM (m : Msg) : Pure Try.prog 24 [.ifc 39 (.agg m.cs)] (.tup [.agg zeroRec, .bool false]) := by
  refine pureQ_of_aw dOk Try.func24 rfl rfl rfl rfl rfl ?_
  simp [Try.f24]
  repeat' (first | intro _ | with_reducible refine And.intro ?_ ?_ | exact chkI (by kernel_rfl) | exact backI (by kernel_rfl) | (refine callA (by first | rfl | (simp; done) | (simp; rfl)) (c_noRecC ..) ?_ <;> try simp) | (refine callB (by first | rfl | (simp; done) | (simp; rfl)) (c_noRecC ..) ?_ <;> try simp) | (refine callA (by first | rfl | (simp; done) | (simp; rfl)) (c_noRecI ..) ?_ <;> try simp) | (refine callB (by first | rfl | (simp; done) | (simp; rfl)) (c_noRecI ..) ?_ <;> try simp) | (refine callA (by first | rfl | (simp; done) | (simp; rfl)) (c_isRec ..) ?_ <;> try simp) | (refine callB (by first | rfl | (simp; done) | (simp; rfl)) (c_isRec ..) ?_ <;> try simp) | fail)
theorem c_noRecN : Pure Try.prog 24 [.nili] (.tup [.agg zeroRec, .bool false]) := by
  refine pureQ_of_aw dOk Try.func24 rfl rfl rfl rfl rfl ?_
  simp [Try.f24]
  repeat' (first | intro _ | with_reducible refine And.intro ?_ ?_ | exact chkI (by kernel_rfl) | exact backI (by kernel_rfl) | (refine callA (by first | rfl | (simp; done) | (simp; rfl)) (c_noRecM ..) ?_ <;> try simp) | (refine callB (by first | rfl | (simp; done) | (simp; rfl)) (c_noRecM ..) ?_ <;> try simp) | (refine callA (by first | rfl | (simp; done) | (simp; rfl)) (c_noRecC ..) ?_ <;> try simp) | (refine callB (by first | rfl | (simp; done) | (simp; rfl)) (c_noRecC ..) ?_ <;> try simp) | (refine callA (by first | rfl | (simp; done) | (simp; rfl)) (c_noRecI ..) ?_ <;> try simp) | (refine callB (by first | rfl | (simp; done) | (simp; rfl)) (c_noRecI ..) ?_ <;> try simp) | (refine callA (by first | rfl | (simp; done) | (simp; rfl)) (c_isRec ..) ?_ <;> try simp) | (refine callB (by first | rfl | (simp; done) | (simp; rfl)) (c_isRec ..) ?_ <;> try simp) | fail)
def Rec.zero : Rec := ⟨0, 0, 0, 0, 0, 0, 0, .zero, 0, 0, 0, 0, 0, 0, 0, 0, false⟩
theorem c_sameZ : Pure Try.prog 17 [.agg zeroRec, .agg zeroRec] (.bool true) := by
  have := c_sameRec' .zero .zero zero_small
  rw [Rec.same_self] at this
  exact this
end Go.Proofs.Ytalkadbpdaoifaa.AX
