/- What is to be done: the law that it is the document's. -/
import Derived.Test.YtnchceblpogpmaaRe16
namespace Go.Proofs.Ytnchceblpogpmaa.AX
open Go Go.RowKit
set_option linter.unusedSimpArgs false
set_option linter.unusedVariables false
set_option maxRecDepth 100000
set_option maxHeartbeats 4000000
theorem decS_cases (f ir is : Int) (l c : List VoteS) : (∃ v s, v ∈ c ∧ decS f ir is l c = asR v.r s) ∨ decS f ir is l c = lastR ir is := by
  unfold decS
  split
  · rename_i v h
    exact .inl ⟨v, 3, List.mem_of_find?_eq_some h, rfl⟩
  · split
    · rename_i x h
      exact .inl ⟨x.2, 2, List.mem_of_getElem? (best_at (n := x.1) (u := x.2) h).1, rfl⟩
    · split
      · rename_i v h
        split at h
        · exact .inl ⟨v, 2, List.mem_of_find?_eq_some h, rfl⟩
        · cases h
      · split
        · rename_i x h
          exact .inl ⟨x.2, 1, List.mem_of_getElem? (best_at (n := x.1) (u := x.2) h).1, rfl⟩
        · exact .inr rfl
theorem decR_small {f ir is : Int} {l : List VoteS} (hs : ∀ v ∈ l, v.r.c.Small) : (decR f ir is l).c.Small := by
  unfold decR
  split
  · rcases decS_cases f ir is l (counted l) with ⟨v, s, h1, h2⟩ | h
    · rw [h2]; exact hs v (pickN_mem l [] v h1)
    · rw [h]; exact zero_small
  · exact zero_small
theorem c_repairDecides (f ir is : Int) (l : List VoteS) : Pure Try.prog 3 [i64 f, .agg [i64 ir, i64 is], .sl (l.map VoteS.cs)] (.bool true) := by
  rcases hf : fewV l with _ | _
  · refine pureQ_of_aw dOk Try.func3 rfl rfl rfl rfl rfl ?_
    simp [Try.f3]
    repeat' (first | intro _ | with_reducible refine And.intro ?_ ?_ | exact chkI (by kernel_rfl) | exact backI (by kernel_rfl) | (refine callA (by first | rfl | (simp; done) | (simp; rfl)) (c_sameZ ..) ?_ <;> try simp [hf]) | (refine callB (by first | rfl | (simp; done) | (simp; rfl)) (c_sameZ ..) ?_ <;> try simp [hf]) | (refine callA (by first | rfl | (simp; done) | (simp; rfl)) (c_sameRec' ..) ?_ <;> try simp [hf]) | (refine callB (by first | rfl | (simp; done) | (simp; rfl)) (c_sameRec' ..) ?_ <;> try simp [hf]) | (refine callA (by first | rfl | (simp; done) | (simp; rfl)) (c_Fast ..) ?_ <;> try simp [hf]) | (refine callB (by first | rfl | (simp; done) | (simp; rfl)) (c_Fast ..) ?_ <;> try simp [hf]) | (refine callA (by first | rfl | (simp; done) | (simp; rfl)) (c_rFast ..) ?_ <;> try simp [hf]) | (refine callB (by first | rfl | (simp; done) | (simp; rfl)) (c_rFast ..) ?_ <;> try simp [hf]) | (refine callA (by first | rfl | (simp; done) | (simp; rfl)) (c_decA ..) ?_ <;> try simp [hf]) | (refine callB (by first | rfl | (simp; done) | (simp; rfl)) (c_decA ..) ?_ <;> try simp [hf]) | (refine callA (by first | rfl | (simp; done) | (simp; rfl)) (c_Decide ..) ?_ <;> try simp [hf]) | (refine callB (by first | rfl | (simp; done) | (simp; rfl)) (c_Decide ..) ?_ <;> try simp [hf]) | (refine callA (by first | rfl | (simp; done) | (simp; rfl)) (c_rDecide ..) ?_ <;> try simp [hf]) | (refine callB (by first | rfl | (simp; done) | (simp; rfl)) (c_rDecide ..) ?_ <;> try simp [hf]) | (refine callA (by first | rfl | (simp; done) | (simp; rfl)) (c_fewV ..) ?_ <;> try simp [hf]) | (refine callB (by first | rfl | (simp; done) | (simp; rfl)) (c_fewV ..) ?_ <;> try simp [hf]) | (refine callA (by first | rfl | (simp; done) | (simp; rfl)) (c_given ..) ?_ <;> try simp [hf]) | (refine callB (by first | rfl | (simp; done) | (simp; rfl)) (c_given ..) ?_ <;> try simp [hf]) | (refine callA (by first | rfl | (simp; done) | (simp; rfl)) (c_awake ..) ?_ <;> try simp [hf]) | (refine callB (by first | rfl | (simp; done) | (simp; rfl)) (c_awake ..) ?_ <;> try simp [hf]) | fail)
    all_goals first | omega
  · obtain ⟨hl, hs⟩ := fewV_small hf
    have hd := decR_small (f := f) (ir := ir) (is := is) hs
    have hsame := Rec.same_self (decR f ir is l)
    refine pureQ_of_aw dOk Try.func3 rfl rfl rfl rfl rfl ?_
    simp [Try.f3]
    repeat' (first | intro _ | with_reducible refine And.intro ?_ ?_ | exact chkI (by kernel_rfl) | exact backI (by kernel_rfl) | (refine callA (by first | rfl | (simp; done) | (simp; rfl)) (c_sameZ ..) ?_ <;> try simp [hf, hsame]) | (refine callB (by first | rfl | (simp; done) | (simp; rfl)) (c_sameZ ..) ?_ <;> try simp [hf, hsame]) | (refine callA (by first | rfl | (simp; done) | (simp; rfl)) (c_sameRec' ..) ?_ <;> try simp [hf, hsame]) | (refine callB (by first | rfl | (simp; done) | (simp; rfl)) (c_sameRec' ..) ?_ <;> try simp [hf, hsame]) | (refine callA (by first | rfl | (simp; done) | (simp; rfl)) (c_Fast ..) ?_ <;> try simp [hf, hsame]) | (refine callB (by first | rfl | (simp; done) | (simp; rfl)) (c_Fast ..) ?_ <;> try simp [hf, hsame]) | (refine callA (by first | rfl | (simp; done) | (simp; rfl)) (c_rFast ..) ?_ <;> try simp [hf, hsame]) | (refine callB (by first | rfl | (simp; done) | (simp; rfl)) (c_rFast ..) ?_ <;> try simp [hf, hsame]) | (refine callA (by first | rfl | (simp; done) | (simp; rfl)) (c_decA ..) ?_ <;> try simp [hf, hsame]) | (refine callB (by first | rfl | (simp; done) | (simp; rfl)) (c_decA ..) ?_ <;> try simp [hf, hsame]) | (refine callA (by first | rfl | (simp; done) | (simp; rfl)) (c_Decide ..) ?_ <;> try simp [hf, hsame]) | (refine callB (by first | rfl | (simp; done) | (simp; rfl)) (c_Decide ..) ?_ <;> try simp [hf, hsame]) | (refine callA (by first | rfl | (simp; done) | (simp; rfl)) (c_rDecide ..) ?_ <;> try simp [hf, hsame]) | (refine callB (by first | rfl | (simp; done) | (simp; rfl)) (c_rDecide ..) ?_ <;> try simp [hf, hsame]) | (refine callA (by first | rfl | (simp; done) | (simp; rfl)) (c_fewV ..) ?_ <;> try simp [hf, hsame]) | (refine callB (by first | rfl | (simp; done) | (simp; rfl)) (c_fewV ..) ?_ <;> try simp [hf, hsame]) | (refine callA (by first | rfl | (simp; done) | (simp; rfl)) (c_given ..) ?_ <;> try simp [hf, hsame]) | (refine callB (by first | rfl | (simp; done) | (simp; rfl)) (c_given ..) ?_ <;> try simp [hf, hsame]) | (refine callA (by first | rfl | (simp; done) | (simp; rfl)) (c_awake ..) ?_ <;> try simp [hf, hsame]) | (refine callB (by first | rfl | (simp; done) | (simp; rfl)) (c_awake ..) ?_ <;> try simp [hf, hsame]) | fail)
    all_goals first | omega
end Go.Proofs.Ytnchceblpogpmaa.AX
