/- Numbers, names and times. -/
import Derived.Test.YtnchceblpogpmaaAxY
namespace Go.Proofs.Ytnchceblpogpmaa.AX
open Go Go.RowKit
set_option linter.unusedSimpArgs false
set_option linter.unusedVariables false
set_option maxRecDepth 100000
set_option maxHeartbeats 4000000
theorem c_within (a b c : Int) : Pure Try.prog 54 [i64 a, i64 b, i64 c] (.bool (decide (b ≤ a ∧ a ≤ c))) := by
  refine pureQ_of_aw dOk Try.func54 rfl rfl rfl rfl rfl ?_
  simp [Try.f54]
  (repeat' (first | intro _ | with_reducible refine And.intro ?_ ?_ | exact chkI (by kernel_rfl) | exact backI (by kernel_rfl) | fail)) <;> (first | done | omega | (refine St.to_chk [] ?_; simp_all; done) | (simp_all; done) | grind)
theorem c_within2 (a b c : Int) : Pure Try.prog 56 [i64 a, i64 b, i64 c] (.bool (decide (b ≤ a ∧ a ≤ c))) := by
  refine pureQ_of_aw dOk Try.func56 rfl rfl rfl rfl rfl ?_
  simp [Try.f56]
  (repeat' (first | intro _ | with_reducible refine And.intro ?_ ?_ | exact chkI (by kernel_rfl) | exact backI (by kernel_rfl) | fail)) <;> (first | done | omega | (refine St.to_chk [] ?_; simp_all; done) | (simp_all; done) | grind)
def okInst (a b : Int) : Bool := decide (0 ≤ a ∧ a ≤ 6 ∧ 1 ≤ b ∧ b ≤ 1048576)
def okBal (n r : Int) : Bool := decide (0 ≤ n ∧ n ≤ 1099511627776 ∧ 0 ≤ r ∧ r ≤ 6)
def okTxn (a b : Int) : Bool := decide (0 ≤ a ∧ a ≤ 3 ∧ 1 ≤ b ∧ b ≤ 1099511627776)
def okStm (t c : Int) : Bool := decide (0 ≤ t ∧ t ≤ 1099511627776 ∧ 0 ≤ c ∧ c ≤ 3)
def ord (a b c d : Int) : Int := if a < c ∨ a = c ∧ b < d then -1 else if a = c ∧ b = d then 0 else 1
theorem c_rInst (a b : Int) : Pure Try.prog 43 [.agg [i64 a, i64 b]] (.bool (okInst a b)) := by
  unfold okInst
  refine pureQ_of_aw dOk Try.func43 rfl rfl rfl rfl rfl ?_
  simp [Try.f43]
  (repeat' (first | intro _ | with_reducible refine And.intro ?_ ?_ | exact chkI (by kernel_rfl) | exact backI (by kernel_rfl) | (refine callA (by first | rfl | (simp; done) | (simp; rfl)) (c_within ..) ?_ <;> try simp) | (refine callB (by first | rfl | (simp; done) | (simp; rfl)) (c_within ..) ?_ <;> try simp) | fail)) <;> (first | done | omega | (refine St.to_chk [] ?_; simp_all; done) | (simp_all; done) | grind)
theorem c_rTxn (a b : Int) : Pure Try.prog 64 [.agg [i64 a, i64 b]] (.bool (okTxn a b)) := by
  unfold okTxn
  refine pureQ_of_aw dOk Try.func64 rfl rfl rfl rfl rfl ?_
  simp [Try.f64]
  (repeat' (first | intro _ | with_reducible refine And.intro ?_ ?_ | exact chkI (by kernel_rfl) | exact backI (by kernel_rfl) | (refine callA (by first | rfl | (simp; done) | (simp; rfl)) (c_within ..) ?_ <;> try simp) | (refine callB (by first | rfl | (simp; done) | (simp; rfl)) (c_within ..) ?_ <;> try simp) | fail)) <;> (first | done | omega | (refine St.to_chk [] ?_; simp_all; done) | (simp_all; done) | grind)
theorem c_rBal (a b : Int) : Pure Try.prog 55 [.agg [i64 a, i64 b]] (.bool (okBal a b)) := by
  unfold okBal
  refine pureQ_of_aw dOk Try.func55 rfl rfl rfl rfl rfl ?_
  simp [Try.f55]
  (repeat' (first | intro _ | with_reducible refine And.intro ?_ ?_ | exact chkI (by kernel_rfl) | exact backI (by kernel_rfl) | (refine callA (by first | rfl | (simp; done) | (simp; rfl)) (c_within ..) ?_ <;> try simp) | (refine callB (by first | rfl | (simp; done) | (simp; rfl)) (c_within ..) ?_ <;> try simp) | fail)) <;> (first | done | omega | (refine St.to_chk [] ?_; simp_all; done) | (simp_all; done) | grind)
theorem c_rStm (a b : Int) : Pure Try.prog 65 [.agg [i64 a, i64 b]] (.bool (okStm a b)) := by
  unfold okStm
  refine pureQ_of_aw dOk Try.func65 rfl rfl rfl rfl rfl ?_
  simp [Try.f65]
  (repeat' (first | intro _ | with_reducible refine And.intro ?_ ?_ | exact chkI (by kernel_rfl) | exact backI (by kernel_rfl) | (refine callA (by first | rfl | (simp; done) | (simp; rfl)) (c_within ..) ?_ <;> try simp) | (refine callB (by first | rfl | (simp; done) | (simp; rfl)) (c_within ..) ?_ <;> try simp) | fail)) <;> (first | done | omega | (refine St.to_chk [] ?_; simp_all; done) | (simp_all; done) | grind)
theorem c_sorder (a b c d : Int) : Pure Try.prog 60 [i64 a, i64 b, i64 c, i64 d] (i64 (ord a b c d)) := by
  unfold ord
  refine pureQ_of_aw dOk Try.func60 rfl rfl rfl rfl rfl ?_
  simp [Try.f60]
  (repeat' (first | intro _ | with_reducible refine And.intro ?_ ?_ | exact chkI (by kernel_rfl) | exact backI (by kernel_rfl) | fail)) <;> (first | done | omega | (refine St.to_chk [] ?_; simp_all; done) | (simp_all; done) | grind)
theorem c_cmpBal (a b c d : Int) : Pure Try.prog 47 [.agg [i64 a, i64 b], .agg [i64 c, i64 d]] (i64 (ord a b c d)) := by
  refine pureQ_of_aw dOk Try.func47 rfl rfl rfl rfl rfl ?_
  simp [Try.f47]
  (repeat' (first | intro _ | with_reducible refine And.intro ?_ ?_ | exact chkI (by kernel_rfl) | exact backI (by kernel_rfl) | (refine callA (by first | rfl | (simp; done) | (simp; rfl)) (c_sorder ..) ?_ <;> try simp) | (refine callB (by first | rfl | (simp; done) | (simp; rfl)) (c_sorder ..) ?_ <;> try simp) | fail)) <;> (first | done | omega | (refine St.to_chk [] ?_; simp_all; done) | (simp_all; done) | grind)
theorem c_cmpStm (a b c d : Int) : Pure Try.prog 67 [.agg [i64 a, i64 b], .agg [i64 c, i64 d]] (i64 (ord a b c d)) := by
  refine pureQ_of_aw dOk Try.func67 rfl rfl rfl rfl rfl ?_
  simp [Try.f67]
  (repeat' (first | intro _ | with_reducible refine And.intro ?_ ?_ | exact chkI (by kernel_rfl) | exact backI (by kernel_rfl) | (refine callA (by first | rfl | (simp; done) | (simp; rfl)) (c_sorder ..) ?_ <;> try simp) | (refine callB (by first | rfl | (simp; done) | (simp; rfl)) (c_sorder ..) ?_ <;> try simp) | fail)) <;> (first | done | omega | (refine St.to_chk [] ?_; simp_all; done) | (simp_all; done) | grind)
theorem c_rInst' (a b : Int) : Pure Try.prog 18 [.agg [i64 a, i64 b]] (.bool (okInst a b)) := by
  unfold okInst
  refine pureQ_of_aw dOk Try.func18 rfl rfl rfl rfl rfl ?_
  simp [Try.f18]
  (repeat' (first | intro _ | with_reducible refine And.intro ?_ ?_ | exact chkI (by kernel_rfl) | exact backI (by kernel_rfl) | fail)) <;> (first | done | omega | (refine St.to_chk [] ?_; simp_all; done) | (simp_all; done) | grind)
theorem c_rTxn' (a b : Int) : Pure Try.prog 49 [.agg [i64 a, i64 b]] (.bool (okTxn a b)) := by
  unfold okTxn
  refine pureQ_of_aw dOk Try.func49 rfl rfl rfl rfl rfl ?_
  simp [Try.f49]
  (repeat' (first | intro _ | with_reducible refine And.intro ?_ ?_ | exact chkI (by kernel_rfl) | exact backI (by kernel_rfl) | fail)) <;> (first | done | omega | (refine St.to_chk [] ?_; simp_all; done) | (simp_all; done) | grind)
theorem c_rBal' (a b : Int) : Pure Try.prog 37 [.agg [i64 a, i64 b]] (.bool (okBal a b)) := by
  unfold okBal
  refine pureQ_of_aw dOk Try.func37 rfl rfl rfl rfl rfl ?_
  simp [Try.f37]
  (repeat' (first | intro _ | with_reducible refine And.intro ?_ ?_ | exact chkI (by kernel_rfl) | exact backI (by kernel_rfl) | fail)) <;> (first | done | omega | (refine St.to_chk [] ?_; simp_all; done) | (simp_all; done) | grind)
theorem c_rStm' (a b : Int) : Pure Try.prog 50 [.agg [i64 a, i64 b]] (.bool (okStm a b)) := by
  unfold okStm
  refine pureQ_of_aw dOk Try.func50 rfl rfl rfl rfl rfl ?_
  simp [Try.f50]
  (repeat' (first | intro _ | with_reducible refine And.intro ?_ ?_ | exact chkI (by kernel_rfl) | exact backI (by kernel_rfl) | fail)) <;> (first | done | omega | (refine St.to_chk [] ?_; simp_all; done) | (simp_all; done) | grind)
theorem c_order' (a b c d : Int) : Pure Try.prog 41 [i64 a, i64 b, i64 c, i64 d] (i64 (ord a b c d)) := by
  unfold ord
  refine pureQ_of_aw dOk Try.func41 rfl rfl rfl rfl rfl ?_
  simp [Try.f41]
  (repeat' (first | intro _ | with_reducible refine And.intro ?_ ?_ | exact chkI (by kernel_rfl) | exact backI (by kernel_rfl) | fail)) <;> (first | done | omega | (refine St.to_chk [] ?_; simp_all; done) | (simp_all; done) | grind)
theorem c_lower' (a b c d : Int) : Pure Try.prog 22 [.agg [i64 a, i64 b], .agg [i64 c, i64 d]] (.bool (decide (ord a b c d < 0))) := by
  refine pureQ_of_aw dOk Try.func22 rfl rfl rfl rfl rfl ?_
  simp [Try.f22]
  (repeat' (first | intro _ | with_reducible refine And.intro ?_ ?_ | exact chkI (by kernel_rfl) | exact backI (by kernel_rfl) | (refine callA (by first | rfl | (simp; done) | (simp; rfl)) (c_order' ..) ?_ <;> try simp) | (refine callB (by first | rfl | (simp; done) | (simp; rfl)) (c_order' ..) ?_ <;> try simp) | fail)) <;> (first | done | omega | (refine St.to_chk [] ?_; simp_all; done) | (simp_all; done) | grind)
theorem c_before' (a b c d : Int) : Pure Try.prog 51 [.agg [i64 a, i64 b], .agg [i64 c, i64 d]] (.bool (decide (ord a b c d < 0))) := by
  refine pureQ_of_aw dOk Try.func51 rfl rfl rfl rfl rfl ?_
  simp [Try.f51]
  (repeat' (first | intro _ | with_reducible refine And.intro ?_ ?_ | exact chkI (by kernel_rfl) | exact backI (by kernel_rfl) | (refine callA (by first | rfl | (simp; done) | (simp; rfl)) (c_order' ..) ?_ <;> try simp) | (refine callB (by first | rfl | (simp; done) | (simp; rfl)) (c_order' ..) ?_ <;> try simp) | fail)) <;> (first | done | omega | (refine St.to_chk [] ?_; simp_all; done) | (simp_all; done) | grind)
def okDep (x : Int) : Bool := decide (0 ≤ x ∧ x ≤ 1048576)
def okDeps (a b c d e f g : Int) : Bool := okDep a && (okDep b && (okDep c && (okDep d && (okDep e && (okDep f && okDep g)))))
theorem c_rDeps (a b c d e f g : Int) : Pure Try.prog 59 [.agg [i64 a, i64 b, i64 c, i64 d, i64 e, i64 f, i64 g]] (.bool (okDeps a b c d e f g)) := by
  unfold okDeps okDep
  refine pureQ_of_aw dOk Try.func59 rfl rfl rfl rfl rfl ?_
  simp [Try.f59]
  refine aw_rounds 8 ?_
  simp [rounds]
  (repeat' (first | intro _ | with_reducible refine And.intro ?_ ?_ | exact chkI (by kernel_rfl) | exact backI (by kernel_rfl) | fail)) <;> (first | done | omega | (refine St.to_chk [] ?_; simp_all; done) | (simp_all; done) | grind)
theorem c_rDeps' (a b c d e f g : Int) : Pure Try.prog 39 [.agg [i64 a, i64 b, i64 c, i64 d, i64 e, i64 f, i64 g]] (.bool (okDeps a b c d e f g)) := by
  unfold okDeps okDep
  refine pureQ_of_aw dOk Try.func39 rfl rfl rfl rfl rfl ?_
  simp [Try.f39]
  refine aw_rounds 8 ?_
  simp [rounds]
  (repeat' (first | intro _ | with_reducible refine And.intro ?_ ?_ | exact chkI (by kernel_rfl) | exact backI (by kernel_rfl) | fail)) <;> (first | done | omega | (refine St.to_chk [] ?_; simp_all; done) | (simp_all; done) | grind)
theorem emp (k : ByteArray) : k = ByteArray.empty ↔ k.size = 0 := ByteArray.size_eq_zero_iff.symm
def okKey (k : ByteArray) : Bool := decide (1 ≤ k.size ∧ k.size ≤ 8)
theorem c_rKey (k : ByteArray) : Pure Try.prog 73 [.str k] (.bool (okKey k)) := by
  unfold okKey
  refine pureQ_of_aw dOk Try.func73 rfl rfl rfl rfl rfl ?_
  simp [Try.f73]
  have := emp k
  (repeat' (first | intro _ | with_reducible refine And.intro ?_ ?_ | exact chkI (by kernel_rfl) | exact backI (by kernel_rfl) | fail)) <;> (first | done | omega | (refine St.to_chk [] ?_; simp_all; done) | (simp_all; done) | grind)
theorem c_rKey' (k : ByteArray) : Pure Try.prog 61 [.str k] (.bool (okKey k)) := by
  unfold okKey
  refine pureQ_of_aw dOk Try.func61 rfl rfl rfl rfl rfl ?_
  simp [Try.f61]
  have := emp k
  (repeat' (first | intro _ | with_reducible refine And.intro ?_ ?_ | exact chkI (by kernel_rfl) | exact backI (by kernel_rfl) | fail)) <;> (first | done | omega | (refine St.to_chk [] ?_; simp_all; done) | (simp_all; done) | grind)
end Go.Proofs.Ytnchceblpogpmaa.AX
