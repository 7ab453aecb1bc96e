/- Whether trips are a history hangs not on how they stand: the law. -/
import Derived.Test.YtnldlkkcdgdkgaaCh15
import Derived.Test.YtnldlkkcdgdkgaaCh18
namespace Go.Proofs.Ytnldlkkcdgdkgaa.AX
open Go Go.RowKit
set_option linter.unusedSimpArgs false
set_option linter.unusedVariables false
set_option maxRecDepth 100000
set_option maxHeartbeats 4000000
def turnL (l : List Trp) (k : Nat) : List Trp := l.drop k ++ l.take k
theorem turn_perm (l : List Trp) (k : Nat) : (turnL l k).Perm l := by
  have := List.perm_append_comm (l₁ := l.drop k) (l₂ := l.take k)
  rw [List.take_append_drop] at this
  exact this
theorem turn_cs (l : List Trp) (k : Nat) : (turnL l k).map Trp.cs = (l.map Trp.cs).drop k ++ (l.map Trp.cs).take k := by simp [turnL]
theorem turn_len (l : List Trp) (k : Nat) : (turnL l k).length = l.length := (turn_perm l k).length_eq
theorem c_givenT (l : List Trp) (k : Nat) (hl : l.length ≤ 19 := by assumption) (hs : ∀ t ∈ l, t.Small := by assumption) : Pure Try.prog 11 [.sl ((l.map Trp.cs).drop k ++ (l.map Trp.cs).take k)] (.sl ((l.map Trp.cs).drop k ++ (l.map Trp.cs).take k)) := by
  have h := c_given (turnL l k) (by rw [turn_len]; omega) (fun t ht => hs t ((turn_perm l k).mem_iff.1 ht))
  rw [turn_cs] at h
  exact h
theorem c_CheckT (l : List Trp) (k : Nat) (hl : l.length ≤ 19 := by assumption) (hs : ∀ t ∈ l, t.Small := by assumption) : Pure Try.prog 12 [.sl ((l.map Trp.cs).drop k ++ (l.map Trp.cs).take k)] (.tup [i64 (cheI (thereS (turnL l k)) (turnL l k)), i64 (cheE (thereS l) l)]) := by
  have h := c_Check (turnL l k) (by rw [turn_len]; omega) (fun t ht => hs t ((turn_perm l k).mem_iff.1 ht))
  rw [turn_cs, cheE_perm (turn_perm l k)] at h
  exact h
theorem c_checkOrder (l : List Trp) (by' : Int) (h0 : 0 ≤ by' ∧ by' ≤ 255) : Pure Try.prog 7 [.sl (l.map Trp.cs), .int .u8 by'] (.bool true) := by
  rcases hf : fewT l with _ | _
  · refine pureQ_of_aw dOk Try.func7 rfl rfl rfl rfl rfl ?_
    simp [Try.f7]
    repeat' (first | intro _ | with_reducible refine And.intro ?_ ?_ | exact chkI (by kernel_rfl) | exact backI (by kernel_rfl) | (refine callA (by first | rfl | (simp; done) | (simp; rfl)) (c_CheckT ..) ?_ <;> try simp [hf]) | (refine callB (by first | rfl | (simp; done) | (simp; rfl)) (c_CheckT ..) ?_ <;> try simp [hf]) | (refine callA (by first | rfl | (simp; done) | (simp; rfl)) (c_CB ..) ?_ <;> try simp [hf]) | (refine callB (by first | rfl | (simp; done) | (simp; rfl)) (c_CB ..) ?_ <;> try simp [hf]) | (refine callA (by first | rfl | (simp; done) | (simp; rfl)) (c_CA ..) ?_ <;> try simp [hf]) | (refine callB (by first | rfl | (simp; done) | (simp; rfl)) (c_CA ..) ?_ <;> try simp [hf]) | (refine callA (by first | rfl | (simp; done) | (simp; rfl)) (c_Check ..) ?_ <;> try simp [hf]) | (refine callB (by first | rfl | (simp; done) | (simp; rfl)) (c_Check ..) ?_ <;> try simp [hf]) | (refine callA (by first | rfl | (simp; done) | (simp; rfl)) (c_few ..) ?_ <;> try simp [hf]) | (refine callB (by first | rfl | (simp; done) | (simp; rfl)) (c_few ..) ?_ <;> try simp [hf]) | (refine callA (by first | rfl | (simp; done) | (simp; rfl)) (c_givenT ..) ?_ <;> try simp [hf]) | (refine callB (by first | rfl | (simp; done) | (simp; rfl)) (c_givenT ..) ?_ <;> try simp [hf]) | (refine callA (by first | rfl | (simp; done) | (simp; rfl)) (c_given ..) ?_ <;> try simp [hf]) | (refine callB (by first | rfl | (simp; done) | (simp; rfl)) (c_given ..) ?_ <;> try simp [hf]) | (refine callA (by first | rfl | (simp; done) | (simp; rfl)) (c_awake ..) ?_ <;> try simp [hf]) | (refine callB (by first | rfl | (simp; done) | (simp; rfl)) (c_awake ..) ?_ <;> try simp [hf]) | fail)
    all_goals first | omega
  · obtain ⟨hl0, hs⟩ := fewT_small hf
    have hl : l.length ≤ 19 := by omega
    have hl2 : l.length ≤ 100 := by omega
    by_cases hz : l.length = 0
    · refine pureQ_of_aw dOk Try.func7 rfl rfl rfl rfl rfl ?_
      simp [Try.f7]
      have hz' := eq_true hz
      repeat' (first | intro _ | with_reducible refine And.intro ?_ ?_ | exact chkI (by kernel_rfl) | exact backI (by kernel_rfl) | (refine callA (by first | rfl | (simp; done) | (simp; rfl)) (c_CheckT ..) ?_ <;> try simp [hf, hz']) | (refine callB (by first | rfl | (simp; done) | (simp; rfl)) (c_CheckT ..) ?_ <;> try simp [hf, hz']) | (refine callA (by first | rfl | (simp; done) | (simp; rfl)) (c_CB ..) ?_ <;> try simp [hf, hz']) | (refine callB (by first | rfl | (simp; done) | (simp; rfl)) (c_CB ..) ?_ <;> try simp [hf, hz']) | (refine callA (by first | rfl | (simp; done) | (simp; rfl)) (c_CA ..) ?_ <;> try simp [hf, hz']) | (refine callB (by first | rfl | (simp; done) | (simp; rfl)) (c_CA ..) ?_ <;> try simp [hf, hz']) | (refine callA (by first | rfl | (simp; done) | (simp; rfl)) (c_Check ..) ?_ <;> try simp [hf, hz']) | (refine callB (by first | rfl | (simp; done) | (simp; rfl)) (c_Check ..) ?_ <;> try simp [hf, hz']) | (refine callA (by first | rfl | (simp; done) | (simp; rfl)) (c_few ..) ?_ <;> try simp [hf, hz']) | (refine callB (by first | rfl | (simp; done) | (simp; rfl)) (c_few ..) ?_ <;> try simp [hf, hz']) | (refine callA (by first | rfl | (simp; done) | (simp; rfl)) (c_givenT ..) ?_ <;> try simp [hf, hz']) | (refine callB (by first | rfl | (simp; done) | (simp; rfl)) (c_givenT ..) ?_ <;> try simp [hf, hz']) | (refine callA (by first | rfl | (simp; done) | (simp; rfl)) (c_given ..) ?_ <;> try simp [hf, hz']) | (refine callB (by first | rfl | (simp; done) | (simp; rfl)) (c_given ..) ?_ <;> try simp [hf, hz']) | (refine callA (by first | rfl | (simp; done) | (simp; rfl)) (c_awake ..) ?_ <;> try simp [hf, hz']) | (refine callB (by first | rfl | (simp; done) | (simp; rfl)) (c_awake ..) ?_ <;> try simp [hf, hz']) | fail)
      all_goals first | omega
    · have hz' := eq_false hz
      obtain ⟨k, hk⟩ : ∃ k : Nat, by'.tmod (l.length : Int) = k := ⟨(by'.tmod (l.length : Int)).toNat, (Int.toNat_of_nonneg (Int.tmod_nonneg _ h0.1)).symm⟩
      have hlt : k < l.length := by
        have := Int.tmod_lt_of_pos by' (show (0 : Int) < (l.length : Int) by omega)
        omega
      have hwa : IntKind.i64.wrap by' = by' := wr64 (by omega) (by omega)
      have hta : List.take l.length (l.map Trp.cs) = l.map Trp.cs := List.take_of_length_le (by simp)
      refine pureQ_of_aw dOk Try.func7 rfl rfl rfl rfl rfl ?_
      simp [Try.f7]
      repeat' (first | intro _ | with_reducible refine And.intro ?_ ?_ | exact chkI (by kernel_rfl) | exact backI (by kernel_rfl) | (refine callA (by first | rfl | (simp; done) | (simp; rfl)) (c_CheckT ..) ?_ <;> try simp [hf, hwa, hk, hta]) | (refine callB (by first | rfl | (simp; done) | (simp; rfl)) (c_CheckT ..) ?_ <;> try simp [hf, hwa, hk, hta]) | (refine callA (by first | rfl | (simp; done) | (simp; rfl)) (c_CB ..) ?_ <;> try simp [hf, hwa, hk, hta]) | (refine callB (by first | rfl | (simp; done) | (simp; rfl)) (c_CB ..) ?_ <;> try simp [hf, hwa, hk, hta]) | (refine callA (by first | rfl | (simp; done) | (simp; rfl)) (c_CA ..) ?_ <;> try simp [hf, hwa, hk, hta]) | (refine callB (by first | rfl | (simp; done) | (simp; rfl)) (c_CA ..) ?_ <;> try simp [hf, hwa, hk, hta]) | (refine callA (by first | rfl | (simp; done) | (simp; rfl)) (c_Check ..) ?_ <;> try simp [hf, hwa, hk, hta]) | (refine callB (by first | rfl | (simp; done) | (simp; rfl)) (c_Check ..) ?_ <;> try simp [hf, hwa, hk, hta]) | (refine callA (by first | rfl | (simp; done) | (simp; rfl)) (c_few ..) ?_ <;> try simp [hf, hwa, hk, hta]) | (refine callB (by first | rfl | (simp; done) | (simp; rfl)) (c_few ..) ?_ <;> try simp [hf, hwa, hk, hta]) | (refine callA (by first | rfl | (simp; done) | (simp; rfl)) (c_givenT ..) ?_ <;> try simp [hf, hwa, hk, hta]) | (refine callB (by first | rfl | (simp; done) | (simp; rfl)) (c_givenT ..) ?_ <;> try simp [hf, hwa, hk, hta]) | (refine callA (by first | rfl | (simp; done) | (simp; rfl)) (c_given ..) ?_ <;> try simp [hf, hwa, hk, hta]) | (refine callB (by first | rfl | (simp; done) | (simp; rfl)) (c_given ..) ?_ <;> try simp [hf, hwa, hk, hta]) | (refine callA (by first | rfl | (simp; done) | (simp; rfl)) (c_awake ..) ?_ <;> try simp [hf, hwa, hk, hta]) | (refine callB (by first | rfl | (simp; done) | (simp; rfl)) (c_awake ..) ?_ <;> try simp [hf, hwa, hk, hta]) | (refine callB (by rfl) (c_givenT l k) ?_ <;> try simp) | (refine callB (by rfl) (c_CheckT l k) ?_ <;> try simp) | (refine callA (by rfl) (c_givenT l k) ?_ <;> try simp) | (refine callA (by rfl) (c_CheckT l k) ?_ <;> try simp) | fail)
      all_goals first | omega | contradiction | exact trp_len (List.mem_of_mem_drop (by assumption)) | exact trp_len (List.mem_of_mem_take (by assumption)) | exact trp_len (List.mem_of_mem_take (List.mem_of_mem_drop (by assumption)))
end Go.Proofs.Ytnldlkkcdgdkgaa.AX
