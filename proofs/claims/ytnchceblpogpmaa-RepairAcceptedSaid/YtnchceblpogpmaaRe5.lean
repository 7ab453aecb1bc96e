/- What is known of an instance by nobody. -/
import Derived.Test.YtnchceblpogpmaaRe4
namespace Go.Proofs.Ytnchceblpogpmaa.AX
open Go Go.RowKit
set_option linter.unusedSimpArgs false
set_option linter.unusedVariables false
set_option maxRecDepth 100000
set_option maxHeartbeats 4000000
def knowR (a b : Int) : Rec := ⟨a, b, 0, 0, 0, 0, 0, .zero, 0, 0, 0, 0, 0, 0, 0, 0, false⟩
theorem c_know (a b : Int) : Pure Try.prog 31 [.sl [], .agg [i64 a, i64 b]] (.agg (knowR a b).cs) := by
  have w1 : IntKind.i64.wrap (-1) = -1 := wr64 (by omega) (by omega)
  refine pureQ_of_aw dOk Try.func31 rfl rfl rfl rfl rfl ?_
  simp [Try.f31, knowR, Cmd.zero, w1]
  refine aw_rounds 1 ?_
  simp [rounds, w1]
  repeat' (first | intro _ | with_reducible refine And.intro ?_ ?_ | exact chkI (by kernel_rfl) | exact backI (by kernel_rfl) | fail)
theorem pos_tally (l : List VoteS) : Pos (tally l) l.length := by
  have key : ∀ (l : List VoteS) (t : List (Int × Int)) (i : Nat), Pos t i → Pos (l.foldl (fun t v => bump t v.fr) t) (i + l.length) := by
    intro l
    induction l with
    | nil => intro t i h; simpa using h
    | cons v r ih =>
      intro t i h
      rw [List.foldl_cons, List.length_cons, show i + (r.length + 1) = (i + 1) + r.length by omega]
      exact ih _ _ (pos_bump h)
  have := key l [] 0 (fun p hp => by simp at hp)
  simpa [tally] using this
end Go.Proofs.Ytnchceblpogpmaa.AX
