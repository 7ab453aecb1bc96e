/- Records and messages: the same, and such that may be. -/
import Derived.Test.YtalkadbpdaoifaaWi6
namespace Go.Proofs.Ytalkadbpdaoifaa.AX
open Go Go.RowKit
set_option linter.unusedSimpArgs false
set_option linter.unusedVariables false
set_option maxRecDepth 100000
set_option maxHeartbeats 4000000
def Rec.same (a b : Rec) : Bool := decide (a.ir = b.ir) && (decide (a.is = b.is) && (decide (a.st = b.st) && (decide (a.pn = b.pn) && (decide (a.pr = b.pr) && (decide (a.bn = b.bn) && (decide (a.br = b.br) && (decide (a.sq = b.sq) &&
  (decide (a.d0 = b.d0) && (decide (a.d1 = b.d1) && (decide (a.d2 = b.d2) && (decide (a.d3 = b.d3) && (decide (a.d4 = b.d4) && (decide (a.d5 = b.d5) && (decide (a.d6 = b.d6) && (decide (a.kept = b.kept) && a.c.same b.c)))))))))))))))
theorem c_same0' (a : Cmd) (ha : a.Small := by assumption) : Pure Try.prog 40 [.agg a.cs, .agg [i64 0, i64 0, i64 0, i64 0, i64 0, i64 0, .sl [], .sl [], .bool false]] (.bool (a.same .zero)) := c_same' a .zero ha
theorem c_sameRec (a b : Rec) (ha : a.c.Small := by assumption) : Pure Try.prog 16 [.agg a.cs, .agg b.cs] (.bool (a.same b)) := by
  refine pureQ_of_aw dOk Try.func16 rfl rfl rfl rfl rfl ?_
  simp [Try.f16]
  repeat' (first | intro _ | with_reducible refine And.intro ?_ ?_ | exact chkI (by kernel_rfl) | exact backI (by kernel_rfl) | (refine callA (by first | rfl | (simp; done) | (simp; rfl)) (c_same0 ..) ?_ <;> try simp) | (refine callB (by first | rfl | (simp; done) | (simp; rfl)) (c_same0 ..) ?_ <;> try simp) | (refine callA (by first | rfl | (simp; done) | (simp; rfl)) (c_same ..) ?_ <;> try simp) | (refine callB (by first | rfl | (simp; done) | (simp; rfl)) (c_same ..) ?_ <;> try simp) | fail)
  all_goals (simp only [Rec.same]; grind)
theorem c_sameRec' (a b : Rec) (ha : a.c.Small := by assumption) : Pure Try.prog 17 [.agg a.cs, .agg b.cs] (.bool (a.same b)) := by
  refine pureQ_of_aw dOk Try.func17 rfl rfl rfl rfl rfl ?_
  simp [Try.f17]
  repeat' (first | intro _ | with_reducible refine And.intro ?_ ?_ | exact chkI (by kernel_rfl) | exact backI (by kernel_rfl) | (refine callA (by first | rfl | (simp; done) | (simp; rfl)) (c_same0' ..) ?_ <;> try simp) | (refine callB (by first | rfl | (simp; done) | (simp; rfl)) (c_same0' ..) ?_ <;> try simp) | (refine callA (by first | rfl | (simp; done) | (simp; rfl)) (c_same' ..) ?_ <;> try simp) | (refine callB (by first | rfl | (simp; done) | (simp; rfl)) (c_same' ..) ?_ <;> try simp) | fail)
  all_goals (simp only [Rec.same]; grind)
def Rec.blank (r : Rec) : Rec := ⟨r.ir, r.is, 0, r.pn, r.pr, 0, 0, .zero, 0, 0, 0, 0, 0, 0, 0, 0, false⟩
def Rec.right (r : Rec) : Bool :=
  okInst r.ir r.is && (okBal r.pn r.pr && (okBal r.bn r.br && (decide (ord r.bn r.br r.pn r.pr ≤ 0) && (decide (0 ≤ r.st ∧ r.st ≤ 3) && (!(r.kept && decide (r.st ≠ 1)) &&
    (if r.st = 0 then r.same r.blank else r.c.right && (decide (1 ≤ r.sq ∧ r.sq ≤ 1099511627776) && okDeps r.d0 r.d1 r.d2 r.d3 r.d4 r.d5 r.d6)))))))
theorem Rec.blank_same {r : Rec} (h : r.st = 0) : r.same r.blank = (decide (r.bn = 0) && (decide (r.br = 0) && (decide (r.sq = 0) && (decide (r.d0 = 0) && (decide (r.d1 = 0) && (decide (r.d2 = 0) && (decide (r.d3 = 0) && (decide (r.d4 = 0) && (decide (r.d5 = 0) && (decide (r.d6 = 0) && (decide (r.kept = false) && r.c.same .zero))))))))))) := by
  simp [Rec.same, Rec.blank, h]
  cases r.kept <;> rfl
theorem c_sameRec0 (a : Rec) (p q n m : Int) (ha : a.c.Small := by assumption) : Pure Try.prog 16 [.agg a.cs, .agg [i64 p, i64 q, i64 0, i64 n, i64 m, i64 0, i64 0, i64 0, i64 0, i64 0, i64 0, i64 0, i64 0, .sl [], .sl [], .bool false, i64 0, i64 0, i64 0, i64 0, i64 0, i64 0, i64 0, i64 0, .bool false]]
    (.bool (a.same ⟨p, q, 0, n, m, 0, 0, .zero, 0, 0, 0, 0, 0, 0, 0, 0, false⟩)) := c_sameRec a ⟨p, q, 0, n, m, 0, 0, .zero, 0, 0, 0, 0, 0, 0, 0, 0, false⟩ ha
theorem c_rightRec (r : Rec) (hc : r.c.Small := by assumption) : Pure Try.prog 12 [.agg r.cs] (.bool r.right) := by
  have hb := @Rec.blank_same r
  refine pureQ_of_aw dOk Try.func12 rfl rfl rfl rfl rfl ?_
  simp [Try.f12]
  repeat' (first | intro _ | with_reducible refine And.intro ?_ ?_ | exact chkI (by kernel_rfl) | exact backI (by kernel_rfl) | (refine callA (by first | rfl | (simp; done) | (simp; rfl)) (c_within2 ..) ?_ <;> try simp) | (refine callB (by first | rfl | (simp; done) | (simp; rfl)) (c_within2 ..) ?_ <;> try simp) | (refine callA (by first | rfl | (simp; done) | (simp; rfl)) (c_rInst ..) ?_ <;> try simp) | (refine callB (by first | rfl | (simp; done) | (simp; rfl)) (c_rInst ..) ?_ <;> try simp) | (refine callA (by first | rfl | (simp; done) | (simp; rfl)) (c_rBal ..) ?_ <;> try simp) | (refine callB (by first | rfl | (simp; done) | (simp; rfl)) (c_rBal ..) ?_ <;> try simp) | (refine callA (by first | rfl | (simp; done) | (simp; rfl)) (c_cmpBal ..) ?_ <;> try simp) | (refine callB (by first | rfl | (simp; done) | (simp; rfl)) (c_cmpBal ..) ?_ <;> try simp) | (refine callA (by first | rfl | (simp; done) | (simp; rfl)) (c_rDeps ..) ?_ <;> try simp) | (refine callB (by first | rfl | (simp; done) | (simp; rfl)) (c_rDeps ..) ?_ <;> try simp) | (refine callA (by first | rfl | (simp; done) | (simp; rfl)) (c_right ..) ?_ <;> try simp) | (refine callB (by first | rfl | (simp; done) | (simp; rfl)) (c_right ..) ?_ <;> try simp) | (refine callA (by first | rfl | (simp; done) | (simp; rfl)) (c_sameRec0 ..) ?_ <;> try simp) | (refine callB (by first | rfl | (simp; done) | (simp; rfl)) (c_sameRec0 ..) ?_ <;> try simp) | (refine callA (by first | rfl | (simp; done) | (simp; rfl)) (c_sameRec ..) ?_ <;> try simp) | (refine callB (by first | rfl | (simp; done) | (simp; rfl)) (c_sameRec ..) ?_ <;> try simp) | fail)
  all_goals (simp only [Rec.right]; try simp only [Rec.blank])
  all_goals first | (grind; done) | (simp_all; done)
theorem c_rightRec' (r : Rec) (hc : r.c.Small := by assumption) : Pure Try.prog 13 [.agg r.cs] (.bool r.right) := by
  have hb := @Rec.blank_same r
  have ho : ord r.pn r.pr r.bn r.br < 0 ↔ 0 < ord r.bn r.br r.pn r.pr := by unfold ord; split <;> split <;> (try split) <;> (try split) <;> omega
  refine pureQ_of_aw dOk Try.func13 rfl rfl rfl rfl rfl ?_
  simp [Try.f13]
  repeat' (first | intro _ | with_reducible refine And.intro ?_ ?_ | exact chkI (by kernel_rfl) | exact backI (by kernel_rfl) | (refine callA (by first | rfl | (simp; done) | (simp; rfl)) (c_rInst' ..) ?_ <;> try simp) | (refine callB (by first | rfl | (simp; done) | (simp; rfl)) (c_rInst' ..) ?_ <;> try simp) | (refine callA (by first | rfl | (simp; done) | (simp; rfl)) (c_rBal' ..) ?_ <;> try simp) | (refine callB (by first | rfl | (simp; done) | (simp; rfl)) (c_rBal' ..) ?_ <;> try simp) | (refine callA (by first | rfl | (simp; done) | (simp; rfl)) (c_lower' ..) ?_ <;> try simp) | (refine callB (by first | rfl | (simp; done) | (simp; rfl)) (c_lower' ..) ?_ <;> try simp) | (refine callA (by first | rfl | (simp; done) | (simp; rfl)) (c_rDeps' ..) ?_ <;> try simp) | (refine callB (by first | rfl | (simp; done) | (simp; rfl)) (c_rDeps' ..) ?_ <;> try simp) | (refine callA (by first | rfl | (simp; done) | (simp; rfl)) (c_same0' ..) ?_ <;> try simp) | (refine callB (by first | rfl | (simp; done) | (simp; rfl)) (c_same0' ..) ?_ <;> try simp) | (refine callA (by first | rfl | (simp; done) | (simp; rfl)) (c_same' ..) ?_ <;> try simp) | (refine callB (by first | rfl | (simp; done) | (simp; rfl)) (c_same' ..) ?_ <;> try simp) | (refine callA (by first | rfl | (simp; done) | (simp; rfl)) (c_right' ..) ?_ <;> try simp) | (refine callB (by first | rfl | (simp; done) | (simp; rfl)) (c_right' ..) ?_ <;> try simp) | fail)
  all_goals simp only [Rec.right]
  all_goals first | (grind; done) | (simp_all; done) | (simp_all; omega)
end Go.Proofs.Ytalkadbpdaoifaa.AX
