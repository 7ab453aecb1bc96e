/- Encode. -/
import Derived.Test.YtalkadbpdaoifaaWi16
import Derived.Test.YtalkadbpdaoifaaWi8
namespace Go.Proofs.Ytalkadbpdaoifaa.AX
open Go Go.RowKit
set_option linter.unusedSimpArgs false
set_option linter.unusedVariables false
set_option maxRecDepth 100000
set_option maxHeartbeats 4000000
theorem zero_right : Cmd.zero.right = true := by simp [Cmd.right, Cmd.zero, Cmd.same, eqL]
theorem zero_small : Cmd.zero.Small := ⟨by simp [Cmd.zero], by simp [Cmd.zero], by simp [Cmd.zero], by simp [Cmd.zero]⟩
theorem zero_bytes : cmdB .zero = [1, 0, 0, 0, 0, 0, 0, 0, 0, 0] := by
  have h0 : num 0 = [0] := by rw [num]; simp
  simp [cmdB, Cmd.zero, nums, h0]
theorem c_encZero : Pure Try.prog 18 [.ifc 33 (.agg [i64 0, i64 0, i64 0, i64 0, i64 0, i64 0, .sl [], .sl [], .bool false])] (.tup [.sl (encB [1, 0, 0, 0, 0, 0, 0, 0, 0, 0]), i64 0]) := by
  have := c_encCmd .zero zero_small zero_right
  rw [zero_bytes] at this
  exact this
theorem c_sameTen (l : List UInt8) (hl : l.length ≤ 4611686018427387904 := by simp) : Pure Try.prog 20 [.sl (encB l), .sl [[.int .u8 1], [.int .u8 0], [.int .u8 0], [.int .u8 0], [.int .u8 0], [.int .u8 0], [.int .u8 0], [.int .u8 0], [.int .u8 0], [.int .u8 0]]] (.bool (decide (l = [1, 0, 0, 0, 0, 0, 0, 0, 0, 0]))) :=
  c_sameB l [1, 0, 0, 0, 0, 0, 0, 0, 0, 0] hl
theorem c_awake : Pure Try.prog 11 [] (.bool true) := by
  refine pureQ_of_aw dOk Try.func11 rfl rfl rfl rfl rfl ?_
  simp [Try.f11, -encB]
  repeat' (first | intro _ | with_reducible refine And.intro ?_ ?_ | exact chkI (by kernel_rfl) | exact backI (by kernel_rfl) | (refine callA (by first | rfl | (simp; done) | (simp; rfl)) (c_sameTen ..) ?_ <;> try simp [-encB]) | (refine callB (by first | rfl | (simp; done) | (simp; rfl)) (c_sameTen ..) ?_ <;> try simp [-encB]) | (refine callA (by first | rfl | (simp; done) | (simp; rfl)) (c_sameB ..) ?_ <;> try simp [-encB]) | (refine callB (by first | rfl | (simp; done) | (simp; rfl)) (c_sameB ..) ?_ <;> try simp [-encB]) | (refine callA (by first | rfl | (simp; done) | (simp; rfl)) (c_encZero ..) ?_ <;> try simp [-encB]) | (refine callB (by first | rfl | (simp; done) | (simp; rfl)) (c_encZero ..) ?_ <;> try simp [-encB]) | (refine callA (by first | rfl | (simp; done) | (simp; rfl)) (c_encMsgNo ..) ?_ <;> try simp [-encB]) | (refine callB (by first | rfl | (simp; done) | (simp; rfl)) (c_encMsgNo ..) ?_ <;> try simp [-encB]) | (refine callA (by first | rfl | (simp; done) | (simp; rfl)) (c_encMsg ..) ?_ <;> try simp [-encB]) | (refine callB (by first | rfl | (simp; done) | (simp; rfl)) (c_encMsg ..) ?_ <;> try simp [-encB]) | (refine callA (by first | rfl | (simp; done) | (simp; rfl)) (c_encRecNo ..) ?_ <;> try simp [-encB]) | (refine callB (by first | rfl | (simp; done) | (simp; rfl)) (c_encRecNo ..) ?_ <;> try simp [-encB]) | (refine callA (by first | rfl | (simp; done) | (simp; rfl)) (c_encRec ..) ?_ <;> try simp [-encB]) | (refine callB (by first | rfl | (simp; done) | (simp; rfl)) (c_encRec ..) ?_ <;> try simp [-encB]) | (refine callA (by first | rfl | (simp; done) | (simp; rfl)) (c_encCmdNo ..) ?_ <;> try simp [-encB]) | (refine callB (by first | rfl | (simp; done) | (simp; rfl)) (c_encCmdNo ..) ?_ <;> try simp [-encB]) | (refine callA (by first | rfl | (simp; done) | (simp; rfl)) (c_encCmd ..) ?_ <;> try simp [-encB]) | (refine callB (by first | rfl | (simp; done) | (simp; rfl)) (c_encCmd ..) ?_ <;> try simp [-encB]) | fail)
end Go.Proofs.Ytalkadbpdaoifaa.AX
