/- What the document fixes of two. -/
import Derived.Test.YtnldlkkcdgdkgaaCh13
import Derived.Test.YtnldlkkcdgdkgaaCh14
namespace Go.Proofs.Ytnldlkkcdgdkgaa.AX
open Go Go.RowKit
set_option linter.unusedSimpArgs false
set_option linter.unusedVariables false
set_option maxRecDepth 100000
set_option maxHeartbeats 4000000
theorem c_some (n tm : Int) : Pure Try.prog 20 [i64 n, i64 tm] (.agg [i64 0, i64 n, i64 tm, i64 0, .sl [], .sl [], i64 1]) := by
  refine pureQ_of_aw dOk Try.func20 rfl rfl rfl rfl rfl ?_
  simp [Try.f20]
  repeat' (first | intro _ | with_reducible refine And.intro ?_ ?_ | exact chkI (by kernel_rfl) | exact backI (by kernel_rfl) | fail)
  all_goals first | omega
def kA : ByteArray := ⟨#[97]⟩
def vA : ByteArray := ⟨#[49]⟩
def tA : Trp := ⟨0, 1, 3, 0, [], [⟨kA, vA⟩], 1⟩
def tB : Trp := ⟨0, 2, 5, 0, [⟨kA, 0, 0, ByteArray.empty⟩], [], 1⟩
def tC : Trp := ⟨0, 2, 2, 0, [⟨kA, 0, 0, ByteArray.empty⟩], [], 1⟩
theorem chk1 : cheI (thereS [tA, tB]) [tA, tB] = 1 ∧ cheE (thereS [tA, tB]) [tA, tB] = 16 := by decide
theorem chk2 : cheI (thereS [tA, tC]) [tA, tC] = -1 ∧ cheE (thereS [tA, tC]) [tA, tC] = 0 := by decide
theorem c_CA : Pure Try.prog 12 [.sl [[i64 0, i64 1, i64 3, i64 0, .sl [], .sl [[.str ⟨#[97]⟩, .str ⟨#[49]⟩]], i64 1], [i64 0, i64 2, i64 5, i64 0, .sl [[.str ⟨#[97]⟩, i64 0, i64 0, .str ByteArray.empty]], .sl [], i64 1]]] (.tup [i64 (1), i64 16]) := by
  have h := c_Check [tA, tB] (by simp) (fun t ht => by
    simp only [List.mem_cons, List.not_mem_nil, or_false] at ht
    rcases ht with rfl | rfl <;> exact few1_small (by decide))
  rw [chk1.1, chk1.2] at h
  exact h
theorem c_CB : Pure Try.prog 12 [.sl [[i64 0, i64 1, i64 3, i64 0, .sl [], .sl [[.str ⟨#[97]⟩, .str ⟨#[49]⟩]], i64 1], [i64 0, i64 2, i64 2, i64 0, .sl [[.str ⟨#[97]⟩, i64 0, i64 0, .str ByteArray.empty]], .sl [], i64 1]]] (.tup [i64 (-1), i64 0]) := by
  have h := c_Check [tA, tC] (by simp) (fun t ht => by
    simp only [List.mem_cons, List.not_mem_nil, or_false] at ht
    rcases ht with rfl | rfl <;> exact few1_small (by decide))
  rw [chk2.1, chk2.2] at h
  exact h
theorem c_awake : Pure Try.prog 10 [] (.bool true) := by
  refine pureQ_of_aw dOk Try.func10 rfl rfl rfl rfl rfl ?_
  simp [Try.f10]
  repeat' (first | intro _ | with_reducible refine And.intro ?_ ?_ | exact chkI (by kernel_rfl) | exact backI (by kernel_rfl) | (refine callA (by first | rfl | (simp; done) | (simp; rfl)) (c_CB ..) ?_ <;> try simp) | (refine callB (by first | rfl | (simp; done) | (simp; rfl)) (c_CB ..) ?_ <;> try simp) | (refine callA (by first | rfl | (simp; done) | (simp; rfl)) (c_CA ..) ?_ <;> try simp) | (refine callB (by first | rfl | (simp; done) | (simp; rfl)) (c_CA ..) ?_ <;> try simp) | (refine callA (by first | rfl | (simp; done) | (simp; rfl)) (c_Check ..) ?_ <;> try simp) | (refine callB (by first | rfl | (simp; done) | (simp; rfl)) (c_Check ..) ?_ <;> try simp) | (refine callA (by first | rfl | (simp; done) | (simp; rfl)) (c_some ..) ?_ <;> try simp) | (refine callB (by first | rfl | (simp; done) | (simp; rfl)) (c_some ..) ?_ <;> try simp) | fail)
  all_goals first | omega
end Go.Proofs.Ytnldlkkcdgdkgaa.AX
