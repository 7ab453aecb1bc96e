/- Nets: the laws begin. -/
import Derived.Test.YtbhchajlebhkgaaNe21
namespace Go.Proofs.Ytbhchajlebhkgaa.AX
open Go Go.RowKit
set_option linter.unusedSimpArgs false
set_option linter.unusedVariables false
set_option maxRecDepth 100000
set_option maxHeartbeats 4000000
theorem c_few10big (l : List DoS) (hl : l.length ≤ 9223372036854775807 := by assumption) : Pure Try.prog 16 [.sl (l.map DoS.cs)] (.bool (fewD l)) := by
  refine pureQ_of_aw dOk Try.func16 rfl rfl rfl rfl rfl ?_
  simp [Try.f16]
  refine aw_loopK (α := {i : Nat // i ≤ l.length ∧ fewD l = ((l.drop i).all (fun d => few d.m.r.c) && decide (l.length ≤ 40))}) [0, 5, 6, 19, 20, 21] (fun i => [(7, i64 i.1)]) (fun i => l.length - i.1) ⟨0, by simp [fewD]⟩ (by simp) ?_
  rintro ⟨i, j1, j2⟩
  dsimp only
  by_cases hi : i < l.length
  · obtain ⟨d, hd⟩ := getL_some hi
    have hw : IntKind.i64.wrap ((i : Int) + 1) = (i : Int) + 1 := wr64 (by omega) (by omega)
    have j3 : (l.drop i).all (fun d => few d.m.r.c) = (few d.m.r.c && (l.drop (i + 1)).all (fun d => few d.m.r.c)) := by rw [dropL_at hd]; simp
    rw [j3] at j2
    rcases hf : few d.m.r.c with _ | _
    · rw [hf, Bool.false_and, Bool.false_and] at j2
      simp [hd]
      repeat' (first | intro _ | with_reducible refine And.intro ?_ ?_ | exact chkI (by kernel_rfl) | exact backI (by kernel_rfl) | (refine callA (by first | rfl | (simp; done) | (simp; rfl)) (c_few3 ..) ?_ <;> try simp [hd, hf, j2]) | (refine callB (by first | rfl | (simp; done) | (simp; rfl)) (c_few3 ..) ?_ <;> try simp [hd, hf, j2]) | (refine callA (by first | rfl | (simp; done) | (simp; rfl)) (c_few2 ..) ?_ <;> try simp [hd, hf, j2]) | (refine callB (by first | rfl | (simp; done) | (simp; rfl)) (c_few2 ..) ?_ <;> try simp [hd, hf, j2]) | (refine callA (by first | rfl | (simp; done) | (simp; rfl)) (c_few1 ..) ?_ <;> try simp [hd, hf, j2]) | (refine callB (by first | rfl | (simp; done) | (simp; rfl)) (c_few1 ..) ?_ <;> try simp [hd, hf, j2]) | (refine callA (by first | rfl | (simp; done) | (simp; rfl)) (c_few ..) ?_ <;> try simp [hd, hf, j2]) | (refine callB (by first | rfl | (simp; done) | (simp; rfl)) (c_few ..) ?_ <;> try simp [hd, hf, j2]) | (refine callA (by first | rfl | (simp; done) | (simp; rfl)) (c_few101 ..) ?_ <;> try simp [hd, hf, j2]) | (refine callB (by first | rfl | (simp; done) | (simp; rfl)) (c_few101 ..) ?_ <;> try simp [hd, hf, j2]) | (refine callA (by first | rfl | (simp; done) | (simp; rfl)) (c_few10 ..) ?_ <;> try simp [hd, hf, j2]) | (refine callB (by first | rfl | (simp; done) | (simp; rfl)) (c_few10 ..) ?_ <;> try simp [hd, hf, j2]) | fail)
      all_goals first | omega
    · rw [hf, Bool.true_and] at j2
      simp [hd]
      repeat' (first | intro _ | with_reducible refine And.intro ?_ ?_ | exact chkI (by kernel_rfl) | exact backI (by kernel_rfl) | (refine callA (by first | rfl | (simp; done) | (simp; rfl)) (c_few3 ..) ?_ <;> try simp [hd, hf]) | (refine callB (by first | rfl | (simp; done) | (simp; rfl)) (c_few3 ..) ?_ <;> try simp [hd, hf]) | (refine callA (by first | rfl | (simp; done) | (simp; rfl)) (c_few2 ..) ?_ <;> try simp [hd, hf]) | (refine callB (by first | rfl | (simp; done) | (simp; rfl)) (c_few2 ..) ?_ <;> try simp [hd, hf]) | (refine callA (by first | rfl | (simp; done) | (simp; rfl)) (c_few1 ..) ?_ <;> try simp [hd, hf]) | (refine callB (by first | rfl | (simp; done) | (simp; rfl)) (c_few1 ..) ?_ <;> try simp [hd, hf]) | (refine callA (by first | rfl | (simp; done) | (simp; rfl)) (c_few ..) ?_ <;> try simp [hd, hf]) | (refine callB (by first | rfl | (simp; done) | (simp; rfl)) (c_few ..) ?_ <;> try simp [hd, hf]) | (refine callA (by first | rfl | (simp; done) | (simp; rfl)) (c_few101 ..) ?_ <;> try simp [hd, hf]) | (refine callB (by first | rfl | (simp; done) | (simp; rfl)) (c_few101 ..) ?_ <;> try simp [hd, hf]) | (refine callA (by first | rfl | (simp; done) | (simp; rfl)) (c_few10 ..) ?_ <;> try simp [hd, hf]) | (refine callB (by first | rfl | (simp; done) | (simp; rfl)) (c_few10 ..) ?_ <;> try simp [hd, hf]) | fail)
      all_goals first | omega | (exact Exists.intro (i + 1) (And.intro (by omega) (And.intro (And.intro (by omega) j2) (St.to_chk [] (by simp [hw])))))
  · rw [List.drop_eq_nil_of_le (by omega)] at j2
    simp at j2
    simp [hi]
    repeat' (first | intro _ | with_reducible refine And.intro ?_ ?_ | exact chkI (by kernel_rfl) | exact backI (by kernel_rfl) | (refine callA (by first | rfl | (simp; done) | (simp; rfl)) (c_few3 ..) ?_ <;> try simp) | (refine callB (by first | rfl | (simp; done) | (simp; rfl)) (c_few3 ..) ?_ <;> try simp) | (refine callA (by first | rfl | (simp; done) | (simp; rfl)) (c_few2 ..) ?_ <;> try simp) | (refine callB (by first | rfl | (simp; done) | (simp; rfl)) (c_few2 ..) ?_ <;> try simp) | (refine callA (by first | rfl | (simp; done) | (simp; rfl)) (c_few1 ..) ?_ <;> try simp) | (refine callB (by first | rfl | (simp; done) | (simp; rfl)) (c_few1 ..) ?_ <;> try simp) | (refine callA (by first | rfl | (simp; done) | (simp; rfl)) (c_few ..) ?_ <;> try simp) | (refine callB (by first | rfl | (simp; done) | (simp; rfl)) (c_few ..) ?_ <;> try simp) | (refine callA (by first | rfl | (simp; done) | (simp; rfl)) (c_few101 ..) ?_ <;> try simp) | (refine callB (by first | rfl | (simp; done) | (simp; rfl)) (c_few101 ..) ?_ <;> try simp) | (refine callA (by first | rfl | (simp; done) | (simp; rfl)) (c_few10 ..) ?_ <;> try simp) | (refine callB (by first | rfl | (simp; done) | (simp; rfl)) (c_few10 ..) ?_ <;> try simp) | fail)
    all_goals first | omega | (rw [j2]; simp; done) | (rw [j2, decide_eq_decide]; omega)
theorem fewD_iff {l : List DoS} (h : fewD l = true) : l.length ≤ 40 ∧ ∀ d ∈ l, d.m.r.c.Small := by
  simp only [fewD, Bool.and_eq_true, List.all_eq_true, decide_eq_true_eq] at h
  exact ⟨h.2, fun d hd => few_small (h.1 d hd)⟩
theorem fresh_inv {room : Int} (h : 1 ≤ room ∧ room ≤ 256) : (NetS.fresh room).Inv room 0 := ⟨fresh_ok room, rfl, by simp [NetS.fresh]; omega, by simp [NetS.fresh], by simp [NetS.fresh], by simp [NetS.fresh]⟩
end Go.Proofs.Ytbhchajlebhkgaa.AX
