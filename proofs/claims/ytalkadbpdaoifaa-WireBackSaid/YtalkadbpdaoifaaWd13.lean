/- The document's reading of records. -/
import Derived.Test.YtalkadbpdaoifaaWd12
namespace Go.Proofs.Ytalkadbpdaoifaa.AX
open Go Go.RowKit
set_option linter.unusedSimpArgs false
set_option linter.unusedVariables false
set_option maxRecDepth 100000
set_option maxHeartbeats 4000000
def Rst.recR (s : Rst) : Rec := ⟨s.numR, (Rst.nums 1 s).numR, (Rst.nums 2 s).numR, (Rst.nums 3 s).numR, (Rst.nums 4 s).numR, (Rst.nums 5 s).numR, (Rst.nums 6 s).numR, s.recT.cmdR, (Rst.nums 7 s).numR, (Rst.nums 8 s).numR, (Rst.nums 9 s).numR, (Rst.nums 10 s).numR, (Rst.nums 11 s).numR, (Rst.nums 12 s).numR, (Rst.nums 13 s).numR, (Rst.nums 14 s).numR, (Rst.nums 15 s).truthV⟩
def Rst.msgR (s : Rst) : Msg := ⟨s.numR, (Rst.nums 1 s).numR, (Rst.nums 2 s).numR, (Rst.nums 3 s).numR, (Rst.nums 4 s).numR, s.msgT.recR⟩
theorem c_prec (b : List UInt8) (e : Int) : Pure Try.prog 61 [.agg [.sl (encB b), i64 e]] (.tup [.agg [.sl (encB (Rst.rcd ⟨b, e⟩).b), i64 (Rst.rcd ⟨b, e⟩).e], .agg (Rst.recR ⟨b, e⟩).cs]) := by
  by_cases ht : 1 < (Rst.nums 15 ⟨b, e⟩).oneV.toNat
  · have ht1 : (Rst.nums 15 ⟨b, e⟩).truth = (Rst.nums 15 ⟨b, e⟩).one.fail 4 := if_pos ht
    have ht2 := eq_true (show (1 : Int) < ((Rst.nums 15 ⟨b, e⟩).oneV.toNat : Int) by omega)
    have ht3 : Rst.recT ⟨b, e⟩ = ((Rst.nums 15 ⟨b, e⟩).one.fail 4).tag 1 := by unfold Rst.recT; rw [ht1]
    simp only [Rst.rcd, Rst.recR, ht3]
    simp only [Rst.nums] at ht2 ⊢
    refine pureQ_of_aw dOk Try.func61 rfl rfl rfl rfl rfl ?_
    simp [Try.f61, -encB]
    repeat' (first | intro _ | with_reducible refine And.intro ?_ ?_ | exact chkI (by kernel_rfl) | exact backI (by kernel_rfl) | (refine callA (by first | rfl | (simp; done) | (simp; rfl)) (c_pfail ..) ?_ <;> try simp [ht2, -encB]) | (refine callB (by first | rfl | (simp; done) | (simp; rfl)) (c_pfail ..) ?_ <;> try simp [ht2, -encB]) | (refine callA (by first | rfl | (simp; done) | (simp; rfl)) (c_pone ..) ?_ <;> try simp [ht2, -encB]) | (refine callB (by first | rfl | (simp; done) | (simp; rfl)) (c_pone ..) ?_ <;> try simp [ht2, -encB]) | (refine callA (by first | rfl | (simp; done) | (simp; rfl)) (c_pnum ..) ?_ <;> try simp [ht2, -encB]) | (refine callB (by first | rfl | (simp; done) | (simp; rfl)) (c_pnum ..) ?_ <;> try simp [ht2, -encB]) | (refine callA (by first | rfl | (simp; done) | (simp; rfl)) (c_ptag ..) ?_ <;> try simp [ht2, -encB]) | (refine callB (by first | rfl | (simp; done) | (simp; rfl)) (c_ptag ..) ?_ <;> try simp [ht2, -encB]) | (refine callA (by first | rfl | (simp; done) | (simp; rfl)) (c_pcmd ..) ?_ <;> try simp [ht2, -encB]) | (refine callB (by first | rfl | (simp; done) | (simp; rfl)) (c_pcmd ..) ?_ <;> try simp [ht2, -encB]) | fail)
    refine aw_rounds 8 ?_
    simp [rounds, -encB]
    repeat' (first | intro _ | with_reducible refine And.intro ?_ ?_ | exact chkI (by kernel_rfl) | exact backI (by kernel_rfl) | (refine callA (by first | rfl | (simp; done) | (simp; rfl)) (c_pfail ..) ?_ <;> try simp [ht2, -encB]) | (refine callB (by first | rfl | (simp; done) | (simp; rfl)) (c_pfail ..) ?_ <;> try simp [ht2, -encB]) | (refine callA (by first | rfl | (simp; done) | (simp; rfl)) (c_pone ..) ?_ <;> try simp [ht2, -encB]) | (refine callB (by first | rfl | (simp; done) | (simp; rfl)) (c_pone ..) ?_ <;> try simp [ht2, -encB]) | (refine callA (by first | rfl | (simp; done) | (simp; rfl)) (c_pnum ..) ?_ <;> try simp [ht2, -encB]) | (refine callB (by first | rfl | (simp; done) | (simp; rfl)) (c_pnum ..) ?_ <;> try simp [ht2, -encB]) | (refine callA (by first | rfl | (simp; done) | (simp; rfl)) (c_ptag ..) ?_ <;> try simp [ht2, -encB]) | (refine callB (by first | rfl | (simp; done) | (simp; rfl)) (c_ptag ..) ?_ <;> try simp [ht2, -encB]) | (refine callA (by first | rfl | (simp; done) | (simp; rfl)) (c_pcmd ..) ?_ <;> try simp [ht2, -encB]) | (refine callB (by first | rfl | (simp; done) | (simp; rfl)) (c_pcmd ..) ?_ <;> try simp [ht2, -encB]) | fail)
    all_goals first | omega | (simp [Rst.truthV, -encB]; done) | (unfold Rst.truthV; apply decide_eq_decide.2; omega) | trace_state
  · have ht1 : (Rst.nums 15 ⟨b, e⟩).truth = (Rst.nums 15 ⟨b, e⟩).one := if_neg ht
    have ht2 := eq_false (show ¬ (1 : Int) < ((Rst.nums 15 ⟨b, e⟩).oneV.toNat : Int) by omega)
    have ht3 : Rst.recT ⟨b, e⟩ = (Rst.nums 15 ⟨b, e⟩).one.tag 1 := by unfold Rst.recT; rw [ht1]
    simp only [Rst.rcd, Rst.recR, ht3]
    simp only [Rst.nums] at ht2 ⊢
    refine pureQ_of_aw dOk Try.func61 rfl rfl rfl rfl rfl ?_
    simp [Try.f61, -encB]
    repeat' (first | intro _ | with_reducible refine And.intro ?_ ?_ | exact chkI (by kernel_rfl) | exact backI (by kernel_rfl) | (refine callA (by first | rfl | (simp; done) | (simp; rfl)) (c_pfail ..) ?_ <;> try simp [ht2, -encB]) | (refine callB (by first | rfl | (simp; done) | (simp; rfl)) (c_pfail ..) ?_ <;> try simp [ht2, -encB]) | (refine callA (by first | rfl | (simp; done) | (simp; rfl)) (c_pone ..) ?_ <;> try simp [ht2, -encB]) | (refine callB (by first | rfl | (simp; done) | (simp; rfl)) (c_pone ..) ?_ <;> try simp [ht2, -encB]) | (refine callA (by first | rfl | (simp; done) | (simp; rfl)) (c_pnum ..) ?_ <;> try simp [ht2, -encB]) | (refine callB (by first | rfl | (simp; done) | (simp; rfl)) (c_pnum ..) ?_ <;> try simp [ht2, -encB]) | (refine callA (by first | rfl | (simp; done) | (simp; rfl)) (c_ptag ..) ?_ <;> try simp [ht2, -encB]) | (refine callB (by first | rfl | (simp; done) | (simp; rfl)) (c_ptag ..) ?_ <;> try simp [ht2, -encB]) | (refine callA (by first | rfl | (simp; done) | (simp; rfl)) (c_pcmd ..) ?_ <;> try simp [ht2, -encB]) | (refine callB (by first | rfl | (simp; done) | (simp; rfl)) (c_pcmd ..) ?_ <;> try simp [ht2, -encB]) | fail)
    refine aw_rounds 8 ?_
    simp [rounds, -encB]
    repeat' (first | intro _ | with_reducible refine And.intro ?_ ?_ | exact chkI (by kernel_rfl) | exact backI (by kernel_rfl) | (refine callA (by first | rfl | (simp; done) | (simp; rfl)) (c_pfail ..) ?_ <;> try simp [ht2, -encB]) | (refine callB (by first | rfl | (simp; done) | (simp; rfl)) (c_pfail ..) ?_ <;> try simp [ht2, -encB]) | (refine callA (by first | rfl | (simp; done) | (simp; rfl)) (c_pone ..) ?_ <;> try simp [ht2, -encB]) | (refine callB (by first | rfl | (simp; done) | (simp; rfl)) (c_pone ..) ?_ <;> try simp [ht2, -encB]) | (refine callA (by first | rfl | (simp; done) | (simp; rfl)) (c_pnum ..) ?_ <;> try simp [ht2, -encB]) | (refine callB (by first | rfl | (simp; done) | (simp; rfl)) (c_pnum ..) ?_ <;> try simp [ht2, -encB]) | (refine callA (by first | rfl | (simp; done) | (simp; rfl)) (c_ptag ..) ?_ <;> try simp [ht2, -encB]) | (refine callB (by first | rfl | (simp; done) | (simp; rfl)) (c_ptag ..) ?_ <;> try simp [ht2, -encB]) | (refine callA (by first | rfl | (simp; done) | (simp; rfl)) (c_pcmd ..) ?_ <;> try simp [ht2, -encB]) | (refine callB (by first | rfl | (simp; done) | (simp; rfl)) (c_pcmd ..) ?_ <;> try simp [ht2, -encB]) | fail)
    all_goals first | omega | (simp [Rst.truthV, -encB]; done) | (unfold Rst.truthV; apply decide_eq_decide.2; omega) | trace_state
end Go.Proofs.Ytalkadbpdaoifaa.AX
