/- Numbers, names and times, of a seat that has no instances. -/
import Derived.Test.YtnldlkkcdgdkgaaAxY
namespace Go.Proofs.Ytnldlkkcdgdkgaa.AX
open Go Go.RowKit
set_option linter.unusedSimpArgs false
set_option linter.unusedVariables false
set_option maxRecDepth 100000
set_option maxHeartbeats 4000000
theorem c_within (a b c : Int) : Pure Try.prog 38 [i64 a, i64 b, i64 c] (.bool (decide (b ≤ a ∧ a ≤ c))) := by
  refine pureQ_of_aw dOk Try.func38 rfl rfl rfl rfl rfl ?_
  simp [Try.f38]
  (repeat' (first | intro _ | with_reducible refine And.intro ?_ ?_ | exact chkI (by kernel_rfl) | exact backI (by kernel_rfl) | (refine callA (by first | rfl | (simp; done) | (simp; rfl)) (c_within ..) ?_ <;> try simp) | (refine callB (by first | rfl | (simp; done) | (simp; rfl)) (c_within ..) ?_ <;> try simp) | fail)) <;> (first | done | omega | (refine St.to_chk [] ?_; simp_all; done) | (simp_all; done) | grind)
def okInst (a b : Int) : Bool := decide (0 ≤ a ∧ a ≤ 6 ∧ 1 ≤ b ∧ b ≤ 1048576)
def okBal (n r : Int) : Bool := decide (0 ≤ n ∧ n ≤ 1099511627776 ∧ 0 ≤ r ∧ r ≤ 6)
def okTxn (a b : Int) : Bool := decide (0 ≤ a ∧ a ≤ 3 ∧ 1 ≤ b ∧ b ≤ 1099511627776)
def okStm (t c : Int) : Bool := decide (0 ≤ t ∧ t ≤ 1099511627776 ∧ 0 ≤ c ∧ c ≤ 3)
def ord (a b c d : Int) : Int := if a < c ∨ a = c ∧ b < d then -1 else if a = c ∧ b = d then 0 else 1
theorem c_rTxn (a b : Int) : Pure Try.prog 23 [.agg [i64 a, i64 b]] (.bool (okTxn a b)) := by
  unfold okTxn
  refine pureQ_of_aw dOk Try.func23 rfl rfl rfl rfl rfl ?_
  simp [Try.f23]
  (repeat' (first | intro _ | with_reducible refine And.intro ?_ ?_ | exact chkI (by kernel_rfl) | exact backI (by kernel_rfl) | (refine callA (by first | rfl | (simp; done) | (simp; rfl)) (c_within ..) ?_ <;> try simp) | (refine callB (by first | rfl | (simp; done) | (simp; rfl)) (c_within ..) ?_ <;> try simp) | (refine callA (by first | rfl | (simp; done) | (simp; rfl)) (c_within ..) ?_ <;> try simp) | (refine callB (by first | rfl | (simp; done) | (simp; rfl)) (c_within ..) ?_ <;> try simp) | (refine callA (by first | rfl | (simp; done) | (simp; rfl)) (c_rTxn ..) ?_ <;> try simp) | (refine callB (by first | rfl | (simp; done) | (simp; rfl)) (c_rTxn ..) ?_ <;> try simp) | fail)) <;> (first | done | omega | (refine St.to_chk [] ?_; simp_all; done) | (simp_all; done) | grind)
theorem c_rStm (a b : Int) : Pure Try.prog 24 [.agg [i64 a, i64 b]] (.bool (okStm a b)) := by
  unfold okStm
  refine pureQ_of_aw dOk Try.func24 rfl rfl rfl rfl rfl ?_
  simp [Try.f24]
  (repeat' (first | intro _ | with_reducible refine And.intro ?_ ?_ | exact chkI (by kernel_rfl) | exact backI (by kernel_rfl) | (refine callA (by first | rfl | (simp; done) | (simp; rfl)) (c_within ..) ?_ <;> try simp) | (refine callB (by first | rfl | (simp; done) | (simp; rfl)) (c_within ..) ?_ <;> try simp) | (refine callA (by first | rfl | (simp; done) | (simp; rfl)) (c_within ..) ?_ <;> try simp) | (refine callB (by first | rfl | (simp; done) | (simp; rfl)) (c_within ..) ?_ <;> try simp) | (refine callA (by first | rfl | (simp; done) | (simp; rfl)) (c_rStm ..) ?_ <;> try simp) | (refine callB (by first | rfl | (simp; done) | (simp; rfl)) (c_rStm ..) ?_ <;> try simp) | fail)) <;> (first | done | omega | (refine St.to_chk [] ?_; simp_all; done) | (simp_all; done) | grind)
theorem c_sorder (a b c d : Int) : Pure Try.prog 43 [i64 a, i64 b, i64 c, i64 d] (i64 (ord a b c d)) := by
  unfold ord
  refine pureQ_of_aw dOk Try.func43 rfl rfl rfl rfl rfl ?_
  simp [Try.f43]
  (repeat' (first | intro _ | with_reducible refine And.intro ?_ ?_ | exact chkI (by kernel_rfl) | exact backI (by kernel_rfl) | (refine callA (by first | rfl | (simp; done) | (simp; rfl)) (c_sorder ..) ?_ <;> try simp) | (refine callB (by first | rfl | (simp; done) | (simp; rfl)) (c_sorder ..) ?_ <;> try simp) | fail)) <;> (first | done | omega | (refine St.to_chk [] ?_; simp_all; done) | (simp_all; done) | grind)
theorem c_cmpStm (a b c d : Int) : Pure Try.prog 33 [.agg [i64 a, i64 b], .agg [i64 c, i64 d]] (i64 (ord a b c d)) := by
  refine pureQ_of_aw dOk Try.func33 rfl rfl rfl rfl rfl ?_
  simp [Try.f33]
  (repeat' (first | intro _ | with_reducible refine And.intro ?_ ?_ | exact chkI (by kernel_rfl) | exact backI (by kernel_rfl) | (refine callA (by first | rfl | (simp; done) | (simp; rfl)) (c_sorder ..) ?_ <;> try simp) | (refine callB (by first | rfl | (simp; done) | (simp; rfl)) (c_sorder ..) ?_ <;> try simp) | (refine callA (by first | rfl | (simp; done) | (simp; rfl)) (c_sorder ..) ?_ <;> try simp) | (refine callB (by first | rfl | (simp; done) | (simp; rfl)) (c_sorder ..) ?_ <;> try simp) | (refine callA (by first | rfl | (simp; done) | (simp; rfl)) (c_cmpStm ..) ?_ <;> try simp) | (refine callB (by first | rfl | (simp; done) | (simp; rfl)) (c_cmpStm ..) ?_ <;> try simp) | fail)) <;> (first | done | omega | (refine St.to_chk [] ?_; simp_all; done) | (simp_all; done) | grind)
theorem c_rTxn' (a b : Int) : Pure Try.prog 26 [.agg [i64 a, i64 b]] (.bool (okTxn a b)) := by
  unfold okTxn
  refine pureQ_of_aw dOk Try.func26 rfl rfl rfl rfl rfl ?_
  simp [Try.f26]
  (repeat' (first | intro _ | with_reducible refine And.intro ?_ ?_ | exact chkI (by kernel_rfl) | exact backI (by kernel_rfl) | (refine callA (by first | rfl | (simp; done) | (simp; rfl)) (c_rTxn' ..) ?_ <;> try simp) | (refine callB (by first | rfl | (simp; done) | (simp; rfl)) (c_rTxn' ..) ?_ <;> try simp) | fail)) <;> (first | done | omega | (refine St.to_chk [] ?_; simp_all; done) | (simp_all; done) | grind)
theorem c_rStm' (a b : Int) : Pure Try.prog 27 [.agg [i64 a, i64 b]] (.bool (okStm a b)) := by
  unfold okStm
  refine pureQ_of_aw dOk Try.func27 rfl rfl rfl rfl rfl ?_
  simp [Try.f27]
  (repeat' (first | intro _ | with_reducible refine And.intro ?_ ?_ | exact chkI (by kernel_rfl) | exact backI (by kernel_rfl) | (refine callA (by first | rfl | (simp; done) | (simp; rfl)) (c_rStm' ..) ?_ <;> try simp) | (refine callB (by first | rfl | (simp; done) | (simp; rfl)) (c_rStm' ..) ?_ <;> try simp) | fail)) <;> (first | done | omega | (refine St.to_chk [] ?_; simp_all; done) | (simp_all; done) | grind)
theorem c_order' (a b c d : Int) : Pure Try.prog 34 [i64 a, i64 b, i64 c, i64 d] (i64 (ord a b c d)) := by
  unfold ord
  refine pureQ_of_aw dOk Try.func34 rfl rfl rfl rfl rfl ?_
  simp [Try.f34]
  (repeat' (first | intro _ | with_reducible refine And.intro ?_ ?_ | exact chkI (by kernel_rfl) | exact backI (by kernel_rfl) | (refine callA (by first | rfl | (simp; done) | (simp; rfl)) (c_order' ..) ?_ <;> try simp) | (refine callB (by first | rfl | (simp; done) | (simp; rfl)) (c_order' ..) ?_ <;> try simp) | fail)) <;> (first | done | omega | (refine St.to_chk [] ?_; simp_all; done) | (simp_all; done) | grind)
theorem c_before' (a b c d : Int) : Pure Try.prog 17 [.agg [i64 a, i64 b], .agg [i64 c, i64 d]] (.bool (decide (ord a b c d < 0))) := by
  refine pureQ_of_aw dOk Try.func17 rfl rfl rfl rfl rfl ?_
  simp [Try.f17]
  (repeat' (first | intro _ | with_reducible refine And.intro ?_ ?_ | exact chkI (by kernel_rfl) | exact backI (by kernel_rfl) | (refine callA (by first | rfl | (simp; done) | (simp; rfl)) (c_order' ..) ?_ <;> try simp) | (refine callB (by first | rfl | (simp; done) | (simp; rfl)) (c_order' ..) ?_ <;> try simp) | (refine callA (by first | rfl | (simp; done) | (simp; rfl)) (c_order' ..) ?_ <;> try simp) | (refine callB (by first | rfl | (simp; done) | (simp; rfl)) (c_order' ..) ?_ <;> try simp) | (refine callA (by first | rfl | (simp; done) | (simp; rfl)) (c_before' ..) ?_ <;> try simp) | (refine callB (by first | rfl | (simp; done) | (simp; rfl)) (c_before' ..) ?_ <;> try simp) | fail)) <;> (first | done | omega | (refine St.to_chk [] ?_; simp_all; done) | (simp_all; done) | grind)
def okDep (x : Int) : Bool := decide (0 ≤ x ∧ x ≤ 1048576)
def okDeps (a b c d e f g : Int) : Bool := okDep a && (okDep b && (okDep c && (okDep d && (okDep e && (okDep f && okDep g)))))
theorem emp (k : ByteArray) : k = ByteArray.empty ↔ k.size = 0 := ByteArray.size_eq_zero_iff.symm
def okKey (k : ByteArray) : Bool := decide (1 ≤ k.size ∧ k.size ≤ 8)
theorem c_rKey (k : ByteArray) : Pure Try.prog 39 [.str k] (.bool (okKey k)) := by
  unfold okKey
  refine pureQ_of_aw dOk Try.func39 rfl rfl rfl rfl rfl ?_
  simp [Try.f39]
  have := emp k
  (repeat' (first | intro _ | with_reducible refine And.intro ?_ ?_ | exact chkI (by kernel_rfl) | exact backI (by kernel_rfl) | (refine callA (by first | rfl | (simp; done) | (simp; rfl)) (c_rKey ..) ?_ <;> try simp) | (refine callB (by first | rfl | (simp; done) | (simp; rfl)) (c_rKey ..) ?_ <;> try simp) | fail)) <;> (first | done | omega | (refine St.to_chk [] ?_; simp_all; done) | (simp_all; done) | grind)
theorem c_rKey' (k : ByteArray) : Pure Try.prog 40 [.str k] (.bool (okKey k)) := by
  unfold okKey
  refine pureQ_of_aw dOk Try.func40 rfl rfl rfl rfl rfl ?_
  simp [Try.f40]
  have := emp k
  (repeat' (first | intro _ | with_reducible refine And.intro ?_ ?_ | exact chkI (by kernel_rfl) | exact backI (by kernel_rfl) | (refine callA (by first | rfl | (simp; done) | (simp; rfl)) (c_rKey' ..) ?_ <;> try simp) | (refine callB (by first | rfl | (simp; done) | (simp; rfl)) (c_rKey' ..) ?_ <;> try simp) | fail)) <;> (first | done | omega | (refine St.to_chk [] ?_; simp_all; done) | (simp_all; done) | grind)
end Go.Proofs.Ytnldlkkcdgdkgaa.AX
