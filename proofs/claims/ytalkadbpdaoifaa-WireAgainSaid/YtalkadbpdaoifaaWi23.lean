/- The document's records and messages as bytes. -/
import Derived.Test.YtalkadbpdaoifaaWi22
namespace Go.Proofs.Ytalkadbpdaoifaa.AX
open Go Go.RowKit
set_option linter.unusedSimpArgs false
set_option linter.unusedVariables false
set_option maxRecDepth 100000
set_option maxHeartbeats 4000000
theorem cmdB_len {c : Cmd} (hc : c.Small) (hn : c.Num) : (cmdB c).length ≤ 40000 := by
  have h1 := hc.rl
  have h2 := hc.wl
  have h3 := rdsB_len hc hn c.rs.length
  have h4 := wrsB_len hc c.ws.length
  rw [List.take_length] at h3 h4
  obtain ⟨n1, n2, n3, n4, n5, n6, n7⟩ := hn
  have l7 := nums_len [c.kind.toNat, c.cl.toNat, c.nm.toNat, c.tm.toNat, c.ac.toNat, c.sh.toNat, c.rs.length] (by simp; omega)
  have l8 := nums_len [c.ws.length] (by simp; omega)
  simp only [List.length_cons, List.length_nil] at l7 l8
  simp only [cmdB, List.length_append, List.length_cons, List.length_nil]
  omega
theorem recB_len {r : Rec} (hc : r.c.Small) (hn : r.Num) : (recB r).length ≤ 50000 := by
  obtain ⟨n1, n2, n3, n4, n5, n6, n7, n8, m0, m1, m2, m3, m4, m5, m6, hcn⟩ := hn
  have lc := cmdB_len hc hcn
  have l8 := nums_len [r.ir.toNat, r.is.toNat, r.st.toNat, r.pn.toNat, r.pr.toNat, r.bn.toNat, r.br.toNat, r.sq.toNat] (by simp; omega)
  have l7 := nums_len [r.d0.toNat, r.d1.toNat, r.d2.toNat, r.d3.toNat, r.d4.toNat, r.d5.toNat, r.d6.toNat] (by simp; omega)
  simp only [List.length_cons, List.length_nil] at l8 l7
  simp only [recB, List.length_append, List.length_cons, List.length_nil]
  omega
theorem c_rRec (r : Rec) (hc : r.c.Small := by assumption) (hn : r.Num := by assumption) : Pure Try.prog 22 [.agg r.cs] (.sl (encB (recB r))) := by
  obtain ⟨n1, n2, n3, n4, n5, n6, n7, n8, m0, m1, m2, m3, m4, m5, m6, hcn⟩ := hn
  have lc := cmdB_len hc hcn
  have lf := nums_len [r.ir.toNat, r.is.toNat, r.st.toNat, r.pn.toNat, r.pr.toNat, r.bn.toNat, r.br.toNat, r.sq.toNat, r.d0.toNat, r.d1.toNat, r.d2.toNat, r.d3.toNat, r.d4.toNat, r.d5.toNat, r.d6.toNat] (by simp; omega)
  simp only [List.length_cons, List.length_nil] at lf
  have hsp := nums_split [r.ir.toNat, r.is.toNat, r.st.toNat, r.pn.toNat, r.pr.toNat, r.bn.toNat, r.br.toNat, r.sq.toNat] [r.d0.toNat, r.d1.toNat, r.d2.toNat, r.d3.toNat, r.d4.toNat, r.d5.toNat, r.d6.toNat]
  simp only [List.cons_append, List.nil_append] at hsp
  refine pureQ_of_aw dOk Try.func22 rfl rfl rfl rfl rfl ?_
  simp [Try.f22, -encB]
  refine aw_rounds 8 ?_
  simp [rounds, -encB]
  repeat' (first | intro _ | with_reducible refine And.intro ?_ ?_ | exact chkI (by kernel_rfl) | exact backI (by kernel_rfl) | (refine callA (by first | rfl | (simp; done) | (simp; rfl)) (c_rnums15 ..) ?_ <;> try simp [-encB]) | (refine callB (by first | rfl | (simp; done) | (simp; rfl)) (c_rnums15 ..) ?_ <;> try simp [-encB]) | (refine callA (by first | rfl | (simp; done) | (simp; rfl)) (c_rnums7 ..) ?_ <;> try simp [-encB]) | (refine callB (by first | rfl | (simp; done) | (simp; rfl)) (c_rnums7 ..) ?_ <;> try simp [-encB]) | (refine callA (by first | rfl | (simp; done) | (simp; rfl)) (c_rnums5 ..) ?_ <;> try simp [-encB]) | (refine callB (by first | rfl | (simp; done) | (simp; rfl)) (c_rnums5 ..) ?_ <;> try simp [-encB]) | (refine callA (by first | rfl | (simp; done) | (simp; rfl)) (c_rnums2 ..) ?_ <;> try simp [-encB]) | (refine callB (by first | rfl | (simp; done) | (simp; rfl)) (c_rnums2 ..) ?_ <;> try simp [-encB]) | (refine callA (by first | rfl | (simp; done) | (simp; rfl)) (c_rnums ..) ?_ <;> try simp [-encB]) | (refine callB (by first | rfl | (simp; done) | (simp; rfl)) (c_rnums ..) ?_ <;> try simp [-encB]) | (refine callA (by first | rfl | (simp; done) | (simp; rfl)) (c_rCmd ..) ?_ <;> try simp [-encB]) | (refine callB (by first | rfl | (simp; done) | (simp; rfl)) (c_rCmd ..) ?_ <;> try simp [-encB]) | fail)
  all_goals first
    | omega
    | exact encB_one (by assumption)
    | (simp [recB, hsp, encB_cons, encB_app, *]; done)
theorem c_rMsg (m : Msg) (hc : m.r.c.Small := by assumption) (hn : m.r.Num := by assumption) (h1 : 0 ≤ m.kind ∧ m.kind ≤ 4611686018427387904 := by omega) (h2 : 0 ≤ m.fr ∧ m.fr ≤ 4611686018427387904 := by omega) (h3 : 0 ≤ m.to ∧ m.to ≤ 4611686018427387904 := by omega) (h4 : 0 ≤ m.bn ∧ m.bn ≤ 4611686018427387904 := by omega) (h5 : 0 ≤ m.br ∧ m.br ≤ 4611686018427387904 := by omega) : Pure Try.prog 23 [.agg m.cs] (.sl (encB (msgB m))) := by
  have l5 := nums_len [m.kind.toNat, m.fr.toNat, m.to.toNat, m.bn.toNat, m.br.toNat] (by simp; omega)
  simp only [List.length_cons, List.length_nil] at l5
  have lr := recB_len hc hn
  refine pureQ_of_aw dOk Try.func23 rfl rfl rfl rfl rfl ?_
  simp [Try.f23, -encB]
  repeat' (first | intro _ | with_reducible refine And.intro ?_ ?_ | exact chkI (by kernel_rfl) | exact backI (by kernel_rfl) | (refine callA (by first | rfl | (simp; done) | (simp; rfl)) (c_rnums15 ..) ?_ <;> try simp [-encB]) | (refine callB (by first | rfl | (simp; done) | (simp; rfl)) (c_rnums15 ..) ?_ <;> try simp [-encB]) | (refine callA (by first | rfl | (simp; done) | (simp; rfl)) (c_rnums7 ..) ?_ <;> try simp [-encB]) | (refine callB (by first | rfl | (simp; done) | (simp; rfl)) (c_rnums7 ..) ?_ <;> try simp [-encB]) | (refine callA (by first | rfl | (simp; done) | (simp; rfl)) (c_rnums5 ..) ?_ <;> try simp [-encB]) | (refine callB (by first | rfl | (simp; done) | (simp; rfl)) (c_rnums5 ..) ?_ <;> try simp [-encB]) | (refine callA (by first | rfl | (simp; done) | (simp; rfl)) (c_rnums2 ..) ?_ <;> try simp [-encB]) | (refine callB (by first | rfl | (simp; done) | (simp; rfl)) (c_rnums2 ..) ?_ <;> try simp [-encB]) | (refine callA (by first | rfl | (simp; done) | (simp; rfl)) (c_rnums ..) ?_ <;> try simp [-encB]) | (refine callB (by first | rfl | (simp; done) | (simp; rfl)) (c_rnums ..) ?_ <;> try simp [-encB]) | (refine callA (by first | rfl | (simp; done) | (simp; rfl)) (c_rRec ..) ?_ <;> try simp [-encB]) | (refine callB (by first | rfl | (simp; done) | (simp; rfl)) (c_rRec ..) ?_ <;> try simp [-encB]) | fail)
  all_goals first
    | omega
    | exact encB_one (by assumption)
    | (simp [msgB, encB_cons, encB_app, *]; done)
end Go.Proofs.Ytalkadbpdaoifaa.AX
