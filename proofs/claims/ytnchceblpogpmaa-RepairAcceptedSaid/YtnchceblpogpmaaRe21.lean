/- Sets of replicas, as the document has them. -/
import Derived.Test.YtnchceblpogpmaaRe3
namespace Go.Proofs.Ytnchceblpogpmaa.AX
open Go Go.RowKit
set_option linter.unusedSimpArgs false
set_option linter.unusedVariables false
set_option maxRecDepth 100000
set_option maxHeartbeats 4000000
def halfN : Nat → Int → Int
  | 0, n => n
  | i + 1, n => (halfN i n).tdiv 2
def hasS (set k : Int) : Bool := if k < 0 ∨ 6 < k then false else decide ((halfN k.toNat (IntKind.u64.wrap set)).tmod 2 = 1)
def majS (f set : Int) : Int := (((List.range (szN f).toNat).filter fun k : Nat => hasS set (k : Int)).length : Int)
theorem half_in (n : Int) (h : 0 ≤ n ∧ n < 18446744073709551616) : ∀ i, 0 ≤ halfN i n ∧ halfN i n < 18446744073709551616
  | 0 => h
  | i + 1 => by
    have ih := half_in n h i
    rw [halfN, Int.tdiv_eq_ediv_of_nonneg ih.1]
    omega
theorem wrapu_in (n : Int) : 0 ≤ IntKind.u64.wrap n ∧ IntKind.u64.wrap n < 18446744073709551616 := by
  unfold IntKind.wrap
  simp only [IntKind.signed, IntKind.bits, Bool.false_and, Bool.false_eq_true, if_false]
  omega
theorem wru {n : Int} (h : 0 ≤ n) (h2 : n < 18446744073709551616) : IntKind.u64.wrap n = n := by
  unfold IntKind.wrap
  simp only [IntKind.signed, IntKind.bits, Bool.false_and, Bool.false_eq_true, if_false]
  omega
theorem c_has (set k : Int) : Pure Try.prog 20 [i64 set, i64 k] (.bool (hasS set k)) := by
  by_cases h : k < 0 ∨ 6 < k
  · rw [hasS, if_pos h]
    refine pureQ_of_aw dOk Try.func20 rfl rfl rfl rfl rfl ?_
    simp [Try.f20]
    repeat' (first | intro _ | with_reducible refine And.intro ?_ ?_ | exact chkI (by kernel_rfl) | exact backI (by kernel_rfl) | fail)
    all_goals first | omega
  · rw [hasS, if_neg h]
    have g1 := eq_false (show ¬ k < 0 by omega)
    have g2 := eq_false (show ¬ 6 < k by omega)
    refine pureQ_of_aw dOk Try.func20 rfl rfl rfl rfl rfl ?_
    simp [Try.f20, g1, g2]
    refine aw_loopK (α := {i : Nat // i ≤ k.toNat}) [1, 4, 22, 23, 24] (fun i => [(6, i64 i.1), (5, .int .u64 (halfN i.1 (IntKind.u64.wrap set)))]) (fun i => k.toNat - i.1) ⟨0, by simp⟩ (by simp [halfN]) ?_
    rintro ⟨i, j1⟩
    dsimp only
    have hh := half_in _ (wrapu_in set) i
    by_cases hi : i < k.toNat
    · have hw := wrI hi (by omega)
      have hi' := eq_true (show (i : Int) < k by omega)
      have hd := half_in _ (wrapu_in set) (i + 1)
      have hwu : IntKind.u64.wrap ((halfN i (IntKind.u64.wrap set)).tdiv 2) = (halfN i (IntKind.u64.wrap set)).tdiv 2 := wru hd.1 hd.2
      simp [hi']
      repeat' (first | intro _ | with_reducible refine And.intro ?_ ?_ | exact chkI (by kernel_rfl) | exact backI (by kernel_rfl) | fail)
      all_goals first | omega | exact Exists.intro (i + 1) (And.intro (by omega) (And.intro (by omega) (St.to_chk [] (by simp [hw, hwu, halfN]))))
    · obtain rfl : i = k.toNat := by omega
      have hi' := eq_false (show ¬ (k.toNat : Int) < k by omega)
      simp [hi']
      repeat' (first | intro _ | with_reducible refine And.intro ?_ ?_ | exact chkI (by kernel_rfl) | exact backI (by kernel_rfl) | fail)
      all_goals first | omega
theorem c_rSlow (f : Int) : Pure Try.prog 40 [i64 f] (i64 (slN f)) := by
  by_cases h : 1 ≤ f ∧ f ≤ 3
  · have h1 := eq_false (show ¬ szN f = 0 by unfold szN; rw [if_pos h]; omega)
    have w1 : IntKind.i64.wrap (f + 1) = f + 1 := wr64 (by omega) (by omega)
    have e : slN f = f + 1 := by unfold slN; rw [if_pos h]
    rw [e]
    refine pureQ_of_aw dOk Try.func40 rfl rfl rfl rfl rfl ?_
    simp [Try.f40]
    repeat' (first | intro _ | with_reducible refine And.intro ?_ ?_ | exact chkI (by kernel_rfl) | exact backI (by kernel_rfl) | (refine callA (by first | rfl | (simp; done) | (simp; rfl)) (c_rSize ..) ?_ <;> try simp [h1, w1]) | (refine callB (by first | rfl | (simp; done) | (simp; rfl)) (c_rSize ..) ?_ <;> try simp [h1, w1]) | fail)
    all_goals first | omega
  · have h1 := eq_true (show szN f = 0 by unfold szN; rw [if_neg h])
    have e : slN f = 0 := by unfold slN; rw [if_neg h]
    rw [e]
    refine pureQ_of_aw dOk Try.func40 rfl rfl rfl rfl rfl ?_
    simp [Try.f40]
    repeat' (first | intro _ | with_reducible refine And.intro ?_ ?_ | exact chkI (by kernel_rfl) | exact backI (by kernel_rfl) | (refine callA (by first | rfl | (simp; done) | (simp; rfl)) (c_rSize ..) ?_ <;> try simp [h1]) | (refine callB (by first | rfl | (simp; done) | (simp; rfl)) (c_rSize ..) ?_ <;> try simp [h1]) | fail)
    all_goals first | omega
def cntS (set : Int) (i : Nat) : Int := (((List.range i).filter fun k : Nat => hasS set (k : Int)).length : Int)
theorem cntS_next (set : Int) (i : Nat) : cntS set (i + 1) = cntS set i + (if hasS set i = true then 1 else 0) := by
  simp only [cntS, List.range_succ, List.filter_append]
  by_cases h : hasS set i = true <;> simp [h]
theorem cntS_in (set : Int) (i : Nat) : 0 ≤ cntS set i ∧ cntS set i ≤ i := by
  have := List.length_filter_le (fun k : Nat => hasS set (k : Int)) (List.range i)
  simp only [cntS, List.length_range] at this ⊢
  omega
theorem szN_in (f : Int) : 0 ≤ szN f ∧ szN f ≤ 7 := by unfold szN; split <;> omega
theorem c_major (f set : Int) : Pure Try.prog 21 [i64 f, i64 set] (.bool (decide (0 < szN f) && decide (slN f ≤ majS f set))) := by
  have hz := szN_in f
  refine pureQ_of_aw dOk Try.func21 rfl rfl rfl rfl rfl ?_
  simp [Try.f21]
  refine aw_loopK (α := {i : Nat // i ≤ (szN f).toNat}) [0, 1, 4, 18, 19, 20, 21, 22, 23, 24, 25, 26] (fun i => [(6, i64 i.1), (5, i64 (cntS set i.1))]) (fun i => (szN f).toNat - i.1) ⟨0, by simp⟩ (by simp [cntS]) ?_
  rintro ⟨i, j1⟩
  dsimp only
  have hc := cntS_in set i
  have hn := cntS_next set i
  by_cases hi : i < (szN f).toNat
  · have hi' := eq_true (show (i : Int) < szN f by omega)
    have hw : IntKind.i64.wrap ((i : Int) + 1) = (i : Int) + 1 := wr64 (by omega) (by omega)
    have hw2 : IntKind.i64.wrap (cntS set i + 1) = cntS set i + 1 := wr64 (by omega) (by omega)
    simp
    rcases hh : hasS set i with _ | _
    · rw [hh] at hn
      repeat' (first | intro _ | with_reducible refine And.intro ?_ ?_ | exact chkI (by kernel_rfl) | exact backI (by kernel_rfl) | (refine callA (by first | rfl | (simp; done) | (simp; rfl)) (c_rSize ..) ?_ <;> try simp [hi', hh]) | (refine callB (by first | rfl | (simp; done) | (simp; rfl)) (c_rSize ..) ?_ <;> try simp [hi', hh]) | (refine callA (by first | rfl | (simp; done) | (simp; rfl)) (c_has ..) ?_ <;> try simp [hi', hh]) | (refine callB (by first | rfl | (simp; done) | (simp; rfl)) (c_has ..) ?_ <;> try simp [hi', hh]) | (refine callA (by first | rfl | (simp; done) | (simp; rfl)) (c_rSlow ..) ?_ <;> try simp [hi', hh]) | (refine callB (by first | rfl | (simp; done) | (simp; rfl)) (c_rSlow ..) ?_ <;> try simp [hi', hh]) | fail)
      all_goals first | omega | (refine Exists.intro (i + 1) (And.intro (by omega) (And.intro (by omega) (St.to_chk [] ?_))); rw [hn]; simp [hw]; done)
    · rw [hh] at hn
      repeat' (first | intro _ | with_reducible refine And.intro ?_ ?_ | exact chkI (by kernel_rfl) | exact backI (by kernel_rfl) | (refine callA (by first | rfl | (simp; done) | (simp; rfl)) (c_rSize ..) ?_ <;> try simp [hi', hh]) | (refine callB (by first | rfl | (simp; done) | (simp; rfl)) (c_rSize ..) ?_ <;> try simp [hi', hh]) | (refine callA (by first | rfl | (simp; done) | (simp; rfl)) (c_has ..) ?_ <;> try simp [hi', hh]) | (refine callB (by first | rfl | (simp; done) | (simp; rfl)) (c_has ..) ?_ <;> try simp [hi', hh]) | (refine callA (by first | rfl | (simp; done) | (simp; rfl)) (c_rSlow ..) ?_ <;> try simp [hi', hh]) | (refine callB (by first | rfl | (simp; done) | (simp; rfl)) (c_rSlow ..) ?_ <;> try simp [hi', hh]) | fail)
      all_goals first | omega | (refine Exists.intro (i + 1) (And.intro (by omega) (And.intro (by omega) (St.to_chk [] ?_))); rw [hn]; simp [hw, hw2]; done)
  · have hi' := eq_false (show ¬ (i : Int) < szN f by omega)
    have e : majS f set = cntS set i := by unfold majS cntS; rw [show (szN f).toNat = i by omega]
    rw [e]
    simp
    repeat' (first | intro _ | with_reducible refine And.intro ?_ ?_ | exact chkI (by kernel_rfl) | exact backI (by kernel_rfl) | (refine callA (by first | rfl | (simp; done) | (simp; rfl)) (c_rSize ..) ?_ <;> try simp [hi']) | (refine callB (by first | rfl | (simp; done) | (simp; rfl)) (c_rSize ..) ?_ <;> try simp [hi']) | (refine callA (by first | rfl | (simp; done) | (simp; rfl)) (c_has ..) ?_ <;> try simp [hi']) | (refine callB (by first | rfl | (simp; done) | (simp; rfl)) (c_has ..) ?_ <;> try simp [hi']) | (refine callA (by first | rfl | (simp; done) | (simp; rfl)) (c_rSlow ..) ?_ <;> try simp [hi']) | (refine callB (by first | rfl | (simp; done) | (simp; rfl)) (c_rSlow ..) ?_ <;> try simp [hi']) | fail)
    all_goals first | omega
end Go.Proofs.Ytnchceblpogpmaa.AX
