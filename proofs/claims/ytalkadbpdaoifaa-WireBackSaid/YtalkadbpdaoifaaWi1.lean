/- Numbers, names and times. -/
import Derived.Test.YtalkadbpdaoifaaAxY
namespace Go.Proofs.Ytalkadbpdaoifaa.AX
open Go Go.RowKit
set_option linter.unusedSimpArgs false
set_option linter.unusedVariables false
set_option maxRecDepth 100000
set_option maxHeartbeats 4000000
theorem c_within (a b c : Int) : Pure Try.prog 68 [i64 a, i64 b, i64 c] (.bool (decide (b ≤ a ∧ a ≤ c))) := by
  refine pureQ_of_aw dOk Try.func68 rfl rfl rfl rfl rfl ?_
  simp [Try.f68]
  (repeat' (first | intro _ | with_reducible refine And.intro ?_ ?_ | exact chkI (by kernel_rfl) | exact backI (by kernel_rfl) | fail)) <;> (first | done | omega | (refine St.to_chk [] ?_; simp_all; done) | (simp_all; done) | grind)
theorem c_within2 (a b c : Int) : Pure Try.prog 34 [i64 a, i64 b, i64 c] (.bool (decide (b ≤ a ∧ a ≤ c))) := by
  refine pureQ_of_aw dOk Try.func34 rfl rfl rfl rfl rfl ?_
  simp [Try.f34]
  (repeat' (first | intro _ | with_reducible refine And.intro ?_ ?_ | exact chkI (by kernel_rfl) | exact backI (by kernel_rfl) | fail)) <;> (first | done | omega | (refine St.to_chk [] ?_; simp_all; done) | (simp_all; done) | grind)
def okInst (a b : Int) : Bool := decide (0 ≤ a ∧ a ≤ 6 ∧ 1 ≤ b ∧ b ≤ 1048576)
def okBal (n r : Int) : Bool := decide (0 ≤ n ∧ n ≤ 1099511627776 ∧ 0 ≤ r ∧ r ≤ 6)
def okTxn (a b : Int) : Bool := decide (0 ≤ a ∧ a ≤ 3 ∧ 1 ≤ b ∧ b ≤ 1099511627776)
def okStm (t c : Int) : Bool := decide (0 ≤ t ∧ t ≤ 1099511627776 ∧ 0 ≤ c ∧ c ≤ 3)
def ord (a b c d : Int) : Int := if a < c ∨ a = c ∧ b < d then -1 else if a = c ∧ b = d then 0 else 1
theorem c_rInst (a b : Int) : Pure Try.prog 31 [.agg [i64 a, i64 b]] (.bool (okInst a b)) := by
  unfold okInst
  refine pureQ_of_aw dOk Try.func31 rfl rfl rfl rfl rfl ?_
  simp [Try.f31]
  (repeat' (first | intro _ | with_reducible refine And.intro ?_ ?_ | exact chkI (by kernel_rfl) | exact backI (by kernel_rfl) | (refine callA (by first | rfl | (simp; done) | (simp; rfl)) (c_within ..) ?_ <;> try simp) | (refine callB (by first | rfl | (simp; done) | (simp; rfl)) (c_within ..) ?_ <;> try simp) | fail)) <;> (first | done | omega | (refine St.to_chk [] ?_; simp_all; done) | (simp_all; done) | grind)
theorem c_rTxn (a b : Int) : Pure Try.prog 70 [.agg [i64 a, i64 b]] (.bool (okTxn a b)) := by
  unfold okTxn
  refine pureQ_of_aw dOk Try.func70 rfl rfl rfl rfl rfl ?_
  simp [Try.f70]
  (repeat' (first | intro _ | with_reducible refine And.intro ?_ ?_ | exact chkI (by kernel_rfl) | exact backI (by kernel_rfl) | (refine callA (by first | rfl | (simp; done) | (simp; rfl)) (c_within ..) ?_ <;> try simp) | (refine callB (by first | rfl | (simp; done) | (simp; rfl)) (c_within ..) ?_ <;> try simp) | fail)) <;> (first | done | omega | (refine St.to_chk [] ?_; simp_all; done) | (simp_all; done) | grind)
theorem c_rBal (a b : Int) : Pure Try.prog 32 [.agg [i64 a, i64 b]] (.bool (okBal a b)) := by
  unfold okBal
  refine pureQ_of_aw dOk Try.func32 rfl rfl rfl rfl rfl ?_
  simp [Try.f32]
  (repeat' (first | intro _ | with_reducible refine And.intro ?_ ?_ | exact chkI (by kernel_rfl) | exact backI (by kernel_rfl) | (refine callA (by first | rfl | (simp; done) | (simp; rfl)) (c_within ..) ?_ <;> try simp) | (refine callB (by first | rfl | (simp; done) | (simp; rfl)) (c_within ..) ?_ <;> try simp) | fail)) <;> (first | done | omega | (refine St.to_chk [] ?_; simp_all; done) | (simp_all; done) | grind)
theorem c_rStm (a b : Int) : Pure Try.prog 71 [.agg [i64 a, i64 b]] (.bool (okStm a b)) := by
  unfold okStm
  refine pureQ_of_aw dOk Try.func71 rfl rfl rfl rfl rfl ?_
  simp [Try.f71]
  (repeat' (first | intro _ | with_reducible refine And.intro ?_ ?_ | exact chkI (by kernel_rfl) | exact backI (by kernel_rfl) | (refine callA (by first | rfl | (simp; done) | (simp; rfl)) (c_within ..) ?_ <;> try simp) | (refine callB (by first | rfl | (simp; done) | (simp; rfl)) (c_within ..) ?_ <;> try simp) | fail)) <;> (first | done | omega | (refine St.to_chk [] ?_; simp_all; done) | (simp_all; done) | grind)
theorem c_sorder (a b c d : Int) : Pure Try.prog 69 [i64 a, i64 b, i64 c, i64 d] (i64 (ord a b c d)) := by
  unfold ord
  refine pureQ_of_aw dOk Try.func69 rfl rfl rfl rfl rfl ?_
  simp [Try.f69]
  (repeat' (first | intro _ | with_reducible refine And.intro ?_ ?_ | exact chkI (by kernel_rfl) | exact backI (by kernel_rfl) | fail)) <;> (first | done | omega | (refine St.to_chk [] ?_; simp_all; done) | (simp_all; done) | grind)
theorem c_cmpBal (a b c d : Int) : Pure Try.prog 33 [.agg [i64 a, i64 b], .agg [i64 c, i64 d]] (i64 (ord a b c d)) := by
  refine pureQ_of_aw dOk Try.func33 rfl rfl rfl rfl rfl ?_
  simp [Try.f33]
  (repeat' (first | intro _ | with_reducible refine And.intro ?_ ?_ | exact chkI (by kernel_rfl) | exact backI (by kernel_rfl) | (refine callA (by first | rfl | (simp; done) | (simp; rfl)) (c_sorder ..) ?_ <;> try simp) | (refine callB (by first | rfl | (simp; done) | (simp; rfl)) (c_sorder ..) ?_ <;> try simp) | fail)) <;> (first | done | omega | (refine St.to_chk [] ?_; simp_all; done) | (simp_all; done) | grind)
theorem c_cmpStm (a b c d : Int) : Pure Try.prog 73 [.agg [i64 a, i64 b], .agg [i64 c, i64 d]] (i64 (ord a b c d)) := by
  refine pureQ_of_aw dOk Try.func73 rfl rfl rfl rfl rfl ?_
  simp [Try.f73]
  (repeat' (first | intro _ | with_reducible refine And.intro ?_ ?_ | exact chkI (by kernel_rfl) | exact backI (by kernel_rfl) | (refine callA (by first | rfl | (simp; done) | (simp; rfl)) (c_sorder ..) ?_ <;> try simp) | (refine callB (by first | rfl | (simp; done) | (simp; rfl)) (c_sorder ..) ?_ <;> try simp) | fail)) <;> (first | done | omega | (refine St.to_chk [] ?_; simp_all; done) | (simp_all; done) | grind)
theorem c_rInst' (a b : Int) : Pure Try.prog 37 [.agg [i64 a, i64 b]] (.bool (okInst a b)) := by
  unfold okInst
  refine pureQ_of_aw dOk Try.func37 rfl rfl rfl rfl rfl ?_
  simp [Try.f37]
  (repeat' (first | intro _ | with_reducible refine And.intro ?_ ?_ | exact chkI (by kernel_rfl) | exact backI (by kernel_rfl) | fail)) <;> (first | done | omega | (refine St.to_chk [] ?_; simp_all; done) | (simp_all; done) | grind)
theorem c_rTxn' (a b : Int) : Pure Try.prog 46 [.agg [i64 a, i64 b]] (.bool (okTxn a b)) := by
  unfold okTxn
  refine pureQ_of_aw dOk Try.func46 rfl rfl rfl rfl rfl ?_
  simp [Try.f46]
  (repeat' (first | intro _ | with_reducible refine And.intro ?_ ?_ | exact chkI (by kernel_rfl) | exact backI (by kernel_rfl) | fail)) <;> (first | done | omega | (refine St.to_chk [] ?_; simp_all; done) | (simp_all; done) | grind)
theorem c_rBal' (a b : Int) : Pure Try.prog 38 [.agg [i64 a, i64 b]] (.bool (okBal a b)) := by
  unfold okBal
  refine pureQ_of_aw dOk Try.func38 rfl rfl rfl rfl rfl ?_
  simp [Try.f38]
  (repeat' (first | intro _ | with_reducible refine And.intro ?_ ?_ | exact chkI (by kernel_rfl) | exact backI (by kernel_rfl) | fail)) <;> (first | done | omega | (refine St.to_chk [] ?_; simp_all; done) | (simp_all; done) | grind)
theorem c_rStm' (a b : Int) : Pure Try.prog 47 [.agg [i64 a, i64 b]] (.bool (okStm a b)) := by
  unfold okStm
  refine pureQ_of_aw dOk Try.func47 rfl rfl rfl rfl rfl ?_
  simp [Try.f47]
  (repeat' (first | intro _ | with_reducible refine And.intro ?_ ?_ | exact chkI (by kernel_rfl) | exact backI (by kernel_rfl) | fail)) <;> (first | done | omega | (refine St.to_chk [] ?_; simp_all; done) | (simp_all; done) | grind)
theorem c_order' (a b c d : Int) : Pure Try.prog 77 [i64 a, i64 b, i64 c, i64 d] (i64 (ord a b c d)) := by
  unfold ord
  refine pureQ_of_aw dOk Try.func77 rfl rfl rfl rfl rfl ?_
  simp [Try.f77]
  (repeat' (first | intro _ | with_reducible refine And.intro ?_ ?_ | exact chkI (by kernel_rfl) | exact backI (by kernel_rfl) | fail)) <;> (first | done | omega | (refine St.to_chk [] ?_; simp_all; done) | (simp_all; done) | grind)
theorem c_lower' (a b c d : Int) : Pure Try.prog 39 [.agg [i64 a, i64 b], .agg [i64 c, i64 d]] (.bool (decide (ord a b c d < 0))) := by
  refine pureQ_of_aw dOk Try.func39 rfl rfl rfl rfl rfl ?_
  simp [Try.f39]
  (repeat' (first | intro _ | with_reducible refine And.intro ?_ ?_ | exact chkI (by kernel_rfl) | exact backI (by kernel_rfl) | (refine callA (by first | rfl | (simp; done) | (simp; rfl)) (c_order' ..) ?_ <;> try simp) | (refine callB (by first | rfl | (simp; done) | (simp; rfl)) (c_order' ..) ?_ <;> try simp) | fail)) <;> (first | done | omega | (refine St.to_chk [] ?_; simp_all; done) | (simp_all; done) | grind)
theorem c_before' (a b c d : Int) : Pure Try.prog 48 [.agg [i64 a, i64 b], .agg [i64 c, i64 d]] (.bool (decide (ord a b c d < 0))) := by
  refine pureQ_of_aw dOk Try.func48 rfl rfl rfl rfl rfl ?_
  simp [Try.f48]
  (repeat' (first | intro _ | with_reducible refine And.intro ?_ ?_ | exact chkI (by kernel_rfl) | exact backI (by kernel_rfl) | (refine callA (by first | rfl | (simp; done) | (simp; rfl)) (c_order' ..) ?_ <;> try simp) | (refine callB (by first | rfl | (simp; done) | (simp; rfl)) (c_order' ..) ?_ <;> try simp) | fail)) <;> (first | done | omega | (refine St.to_chk [] ?_; simp_all; done) | (simp_all; done) | grind)
def okDep (x : Int) : Bool := decide (0 ≤ x ∧ x ≤ 1048576)
def okDeps (a b c d e f g : Int) : Bool := okDep a && (okDep b && (okDep c && (okDep d && (okDep e && (okDep f && okDep g)))))
theorem c_rDeps (a b c d e f g : Int) : Pure Try.prog 36 [.agg [i64 a, i64 b, i64 c, i64 d, i64 e, i64 f, i64 g]] (.bool (okDeps a b c d e f g)) := by
  unfold okDeps okDep
  refine pureQ_of_aw dOk Try.func36 rfl rfl rfl rfl rfl ?_
  simp [Try.f36]
  refine aw_rounds 8 ?_
  simp [rounds]
  (repeat' (first | intro _ | with_reducible refine And.intro ?_ ?_ | exact chkI (by kernel_rfl) | exact backI (by kernel_rfl) | fail)) <;> (first | done | omega | (refine St.to_chk [] ?_; simp_all; done) | (simp_all; done) | grind)
theorem c_rDeps' (a b c d e f g : Int) : Pure Try.prog 41 [.agg [i64 a, i64 b, i64 c, i64 d, i64 e, i64 f, i64 g]] (.bool (okDeps a b c d e f g)) := by
  unfold okDeps okDep
  refine pureQ_of_aw dOk Try.func41 rfl rfl rfl rfl rfl ?_
  simp [Try.f41]
  refine aw_rounds 8 ?_
  simp [rounds]
  (repeat' (first | intro _ | with_reducible refine And.intro ?_ ?_ | exact chkI (by kernel_rfl) | exact backI (by kernel_rfl) | fail)) <;> (first | done | omega | (refine St.to_chk [] ?_; simp_all; done) | (simp_all; done) | grind)
theorem emp (k : ByteArray) : k = ByteArray.empty ↔ k.size = 0 := ByteArray.size_eq_zero_iff.symm
def okKey (k : ByteArray) : Bool := decide (1 ≤ k.size ∧ k.size ≤ 8)
theorem c_rKey (k : ByteArray) : Pure Try.prog 95 [.str k] (.bool (okKey k)) := by
  unfold okKey
  refine pureQ_of_aw dOk Try.func95 rfl rfl rfl rfl rfl ?_
  simp [Try.f95]
  have := emp k
  (repeat' (first | intro _ | with_reducible refine And.intro ?_ ?_ | exact chkI (by kernel_rfl) | exact backI (by kernel_rfl) | fail)) <;> (first | done | omega | (refine St.to_chk [] ?_; simp_all; done) | (simp_all; done) | grind)
theorem c_rKey' (k : ByteArray) : Pure Try.prog 82 [.str k] (.bool (okKey k)) := by
  unfold okKey
  refine pureQ_of_aw dOk Try.func82 rfl rfl rfl rfl rfl ?_
  simp [Try.f82]
  have := emp k
  (repeat' (first | intro _ | with_reducible refine And.intro ?_ ?_ | exact chkI (by kernel_rfl) | exact backI (by kernel_rfl) | fail)) <;> (first | done | omega | (refine St.to_chk [] ?_; simp_all; done) | (simp_all; done) | grind)
end Go.Proofs.Ytalkadbpdaoifaa.AX
