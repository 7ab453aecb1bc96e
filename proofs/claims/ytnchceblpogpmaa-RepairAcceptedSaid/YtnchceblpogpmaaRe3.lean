/- Quorums, and records to be done. -/
import Derived.Test.YtnchceblpogpmaaRe2
namespace Go.Proofs.Ytnchceblpogpmaa.AX
open Go Go.RowKit
set_option linter.unusedSimpArgs false
set_option linter.unusedVariables false
set_option maxRecDepth 100000
set_option maxHeartbeats 4000000
def szN (f : Int) : Int := if 1 ≤ f ∧ f ≤ 3 then 2 * f + 1 else 0
def slN (f : Int) : Int := if 1 ≤ f ∧ f ≤ 3 then f + 1 else 0
def faN (f : Int) : Int := if 1 ≤ f ∧ f ≤ 3 then 2 * f else 0
theorem c_sizes (f : Int) : Pure Try.prog 53 [i64 f] (.agg [i64 (szN f), i64 (slN f), i64 (faN f)]) := by
  unfold szN slN faN
  by_cases h : 1 ≤ f ∧ f ≤ 3
  · have w1 : IntKind.i64.wrap (2 * f) = 2 * f := wr64 (by omega) (by omega)
    have w2 : IntKind.i64.wrap (2 * f + 1) = 2 * f + 1 := wr64 (by omega) (by omega)
    have w3 : IntKind.i64.wrap (f + 1) = f + 1 := wr64 (by omega) (by omega)
    simp only [if_pos h]
    refine pureQ_of_aw dOk Try.func53 rfl rfl rfl rfl rfl ?_
    simp [Try.f53, w1, w2, w3]
    repeat' (first | intro _ | with_reducible refine And.intro ?_ ?_ | exact chkI (by kernel_rfl) | exact backI (by kernel_rfl) | fail)
    all_goals first | omega
  · simp only [if_neg h]
    refine pureQ_of_aw dOk Try.func53 rfl rfl rfl rfl rfl ?_
    simp [Try.f53]
    repeat' (first | intro _ | with_reducible refine And.intro ?_ ?_ | exact chkI (by kernel_rfl) | exact backI (by kernel_rfl) | fail)
    all_goals first | omega
theorem c_Size (f : Int) : Pure Try.prog 42 [i64 f] (i64 (szN f)) := by
  refine pureQ_of_aw dOk Try.func42 rfl rfl rfl rfl rfl ?_
  simp [Try.f42]
  repeat' (first | intro _ | with_reducible refine And.intro ?_ ?_ | exact chkI (by kernel_rfl) | exact backI (by kernel_rfl) | (refine callA (by first | rfl | (simp; done) | (simp; rfl)) (c_sizes ..) ?_ <;> try simp) | (refine callB (by first | rfl | (simp; done) | (simp; rfl)) (c_sizes ..) ?_ <;> try simp) | fail)
theorem c_Slow (f : Int) : Pure Try.prog 45 [i64 f] (i64 (slN f)) := by
  refine pureQ_of_aw dOk Try.func45 rfl rfl rfl rfl rfl ?_
  simp [Try.f45]
  repeat' (first | intro _ | with_reducible refine And.intro ?_ ?_ | exact chkI (by kernel_rfl) | exact backI (by kernel_rfl) | (refine callA (by first | rfl | (simp; done) | (simp; rfl)) (c_sizes ..) ?_ <;> try simp) | (refine callB (by first | rfl | (simp; done) | (simp; rfl)) (c_sizes ..) ?_ <;> try simp) | fail)
theorem c_rSize (f : Int) : Pure Try.prog 16 [i64 f] (i64 (szN f)) := by
  unfold szN
  refine pureQ_of_aw dOk Try.func16 rfl rfl rfl rfl rfl ?_
  simp [Try.f16]
  repeat' (first | intro _ | with_reducible refine And.intro ?_ ?_ | exact chkI (by kernel_rfl) | exact backI (by kernel_rfl) | fail)
  all_goals first | omega | (rw [if_pos (by omega), IntKind.wrap_i64, IntKind.wrap_i64]; omega) | (rw [if_neg (by omega)]; done)
def VoteS.quick (v : VoteS) : Bool := decide (v.r.st = 1) && (decide (v.r.bn = 0) && (decide (v.r.br = 0) && v.r.kept))
theorem c_fast (v : VoteS) : Pure Try.prog 30 [.agg v.cs] (.bool v.quick) := by
  refine pureQ_of_aw dOk Try.func30 rfl rfl rfl rfl rfl ?_
  simp [Try.f30]
  repeat' (first | intro _ | with_reducible refine And.intro ?_ ?_ | exact chkI (by kernel_rfl) | exact backI (by kernel_rfl) | fail)
  all_goals first | (simp only [VoteS.quick]; grind)
theorem c_quick (v : VoteS) : Pure Try.prog 35 [.agg v.cs] (.bool v.quick) := by
  refine pureQ_of_aw dOk Try.func35 rfl rfl rfl rfl rfl ?_
  simp [Try.f35]
  repeat' (first | intro _ | with_reducible refine And.intro ?_ ?_ | exact chkI (by kernel_rfl) | exact backI (by kernel_rfl) | fail)
  all_goals first | (simp only [VoteS.quick]; grind)
def asR (r : Rec) (st : Int) : Rec := ⟨r.ir, r.is, st, 0, 0, 0, 0, r.c, r.sq, r.d0, r.d1, r.d2, r.d3, r.d4, r.d5, r.d6, decide (st = 1)⟩
theorem c_clone (c : Cmd) (h : c.Small := by assumption) : Pure Try.prog 46 [.agg c.cs] (.agg c.cs) := by
  have h1 := h.rl
  have h2 := h.wl
  refine pureQ_of_aw dOk Try.func46 rfl rfl rfl rfl rfl ?_
  simp [Try.f46]
  repeat' (first | intro _ | with_reducible refine And.intro ?_ ?_ | exact chkI (by kernel_rfl) | exact backI (by kernel_rfl) | (refine callH (by first | ((refine ⟨?_, ?_, ?_, ?_⟩ <;> repeat' (first | exact rfl | exact Or.inl rfl | exact Or.inr rfl | exact trivial | with_reducible constructor | refine ⟨?_, ?_⟩ | (simp; done))); done) | fail) (c_cloneW ..) ?_ <;> try simp) | (refine callHD (by first | ((refine ⟨?_, ?_, ?_, ?_⟩ <;> repeat' (first | exact rfl | exact Or.inl rfl | exact Or.inr rfl | exact trivial | with_reducible constructor | refine ⟨?_, ?_⟩ | (simp; done))); done) | fail) (c_cloneW ..) rfl ?_ <;> try simp) | (refine callA (by first | rfl | (simp; done) | (simp; rfl)) (c_clone ..) ?_ <;> try simp) | (refine callB (by first | rfl | (simp; done) | (simp; rfl)) (c_clone ..) ?_ <;> try simp) | fail)
  all_goals first | omega
theorem c_as (r : Rec) (st : Int) (h : r.c.Small := by assumption) : Pure Try.prog 28 [.agg r.cs, i64 st] (.agg (asR r st).cs) := by
  refine pureQ_of_aw dOk Try.func28 rfl rfl rfl rfl rfl ?_
  simp [Try.f28, asR]
  repeat' (first | intro _ | with_reducible refine And.intro ?_ ?_ | exact chkI (by kernel_rfl) | exact backI (by kernel_rfl) | (refine callA (by first | rfl | (simp; done) | (simp; rfl)) (c_clone ..) ?_ <;> try simp) | (refine callB (by first | rfl | (simp; done) | (simp; rfl)) (c_clone ..) ?_ <;> try simp) | (refine callH (by first | ((refine ⟨?_, ?_, ?_, ?_⟩ <;> repeat' (first | exact rfl | exact Or.inl rfl | exact Or.inr rfl | exact trivial | with_reducible constructor | refine ⟨?_, ?_⟩ | (simp; done))); done) | fail) (c_cloneW ..) ?_ <;> try simp) | (refine callHD (by first | ((refine ⟨?_, ?_, ?_, ?_⟩ <;> repeat' (first | exact rfl | exact Or.inl rfl | exact Or.inr rfl | exact trivial | with_reducible constructor | refine ⟨?_, ?_⟩ | (simp; done))); done) | fail) (c_cloneW ..) rfl ?_ <;> try simp) | (refine callA (by first | rfl | (simp; done) | (simp; rfl)) (c_clone ..) ?_ <;> try simp) | (refine callB (by first | rfl | (simp; done) | (simp; rfl)) (c_clone ..) ?_ <;> try simp) | fail)
  all_goals first | omega
theorem c_rAs (r : Rec) (st : Int) : Pure Try.prog 33 [.agg r.cs, i64 st] (.agg (asR r st).cs) := by
  refine pureQ_of_aw dOk Try.func33 rfl rfl rfl rfl rfl ?_
  simp [Try.f33, asR]
  repeat' (first | intro _ | with_reducible refine And.intro ?_ ?_ | exact chkI (by kernel_rfl) | exact backI (by kernel_rfl) | fail)
  all_goals first | omega
end Go.Proofs.Ytnchceblpogpmaa.AX
