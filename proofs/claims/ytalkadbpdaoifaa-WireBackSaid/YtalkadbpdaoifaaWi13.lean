/- Records put behind some bytes. -/
import Derived.Test.YtalkadbpdaoifaaWi12
namespace Go.Proofs.Ytalkadbpdaoifaa.AX
open Go Go.RowKit
set_option linter.unusedSimpArgs false
set_option linter.unusedVariables false
set_option maxRecDepth 100000
set_option maxHeartbeats 4000000
def recB (r : Rec) : List UInt8 := [2] ++ nums [r.ir.toNat, r.is.toNat, r.st.toNat, r.pn.toNat, r.pr.toNat, r.bn.toNat, r.br.toNat, r.sq.toNat] ++ nums [r.d0.toNat, r.d1.toNat, r.d2.toNat, r.d3.toNat, r.d4.toNat, r.d5.toNat, r.d6.toNat] ++ [if r.kept then 1 else 0] ++ cmdB r.c
theorem c_numbers8 (p : List UInt8) (a b c d e f g h : Int) (ha : 0 ≤ a ∧ a ≤ 4611686018427387904 := by omega) (hb : 0 ≤ b ∧ b ≤ 4611686018427387904 := by omega) (hc : 0 ≤ c ∧ c ≤ 4611686018427387904 := by omega) (hd : 0 ≤ d ∧ d ≤ 4611686018427387904 := by omega)
    (he : 0 ≤ e ∧ e ≤ 4611686018427387904 := by omega) (hf : 0 ≤ f ∧ f ≤ 4611686018427387904 := by omega) (hg : 0 ≤ g ∧ g ≤ 4611686018427387904 := by omega) (hh : 0 ≤ h ∧ h ≤ 4611686018427387904 := by omega) (hp : p.length ≤ 900000000 := by first | omega | (simp only [List.length_append, List.length_cons, List.length_nil]; omega)) :
    Fn Try.prog 45 [.rf 0, .sl [[i64 a], [i64 b], [i64 c], [i64 d], [i64 e], [i64 f], [i64 g], [i64 h]]] [(0, .row false 5 1 (encB p))] 1 (.rf 1) [(1, .row false 5 1 (encB (p ++ nums [a.toNat, b.toNat, c.toNat, d.toNat, e.toNat, f.toNat, g.toNat, h.toNat]))), (0, .gone)] 2 := by
  have hall : ∀ x ∈ [a, b, c, d, e, f, g, h], 0 ≤ x ∧ x ≤ 4611686018427387904 := by
    intro x hx
    simp only [List.mem_cons, List.not_mem_nil, or_false] at hx
    rcases hx with rfl | rfl | rfl | rfl | rfl | rfl | rfl | rfl <;> assumption
  have := c_numbersI p [a, b, c, d, e, f, g, h] hall (by
    have := nums_len ([a, b, c, d, e, f, g, h].map Int.toNat) (fun n hn => by
      obtain ⟨x, hx, rfl⟩ := List.mem_map.1 hn
      have := hall x hx
      omega)
    simp only [List.length_append]
    simp only [List.length_map, List.length_cons, List.length_nil] at this
    omega)
  simpa using this
structure Rec.Num (r : Rec) : Prop where
  ir : 0 ≤ r.ir ∧ r.ir ≤ 4611686018427387904
  is : 0 ≤ r.is ∧ r.is ≤ 4611686018427387904
  st : 0 ≤ r.st ∧ r.st ≤ 4611686018427387904
  pn : 0 ≤ r.pn ∧ r.pn ≤ 4611686018427387904
  pr : 0 ≤ r.pr ∧ r.pr ≤ 4611686018427387904
  bn : 0 ≤ r.bn ∧ r.bn ≤ 4611686018427387904
  br : 0 ≤ r.br ∧ r.br ≤ 4611686018427387904
  sq : 0 ≤ r.sq ∧ r.sq ≤ 4611686018427387904
  d0 : 0 ≤ r.d0 ∧ r.d0 ≤ 4611686018427387904
  d1 : 0 ≤ r.d1 ∧ r.d1 ≤ 4611686018427387904
  d2 : 0 ≤ r.d2 ∧ r.d2 ≤ 4611686018427387904
  d3 : 0 ≤ r.d3 ∧ r.d3 ≤ 4611686018427387904
  d4 : 0 ≤ r.d4 ∧ r.d4 ≤ 4611686018427387904
  d5 : 0 ≤ r.d5 ∧ r.d5 ≤ 4611686018427387904
  d6 : 0 ≤ r.d6 ∧ r.d6 ≤ 4611686018427387904
  c : r.c.Num
theorem c_putRec (p : List UInt8) (r : Rec) (hc : r.c.Small := by assumption) (hn : r.Num := by assumption) (hp : p.length ≤ 500000 := by first | omega | (simp only [List.length_append, List.length_cons, List.length_nil]; omega)) :
    Fn Try.prog 44 [.rf 0, .agg r.cs] [(0, .row false 5 1 (encB p))] 1 (.rf 1) [(1, .row false 5 1 (encB (p ++ recB r))), (0, .gone)] 2 := by
  obtain ⟨n1, n2, n3, n4, n5, n6, n7, n8, m0, m1, m2, m3, m4, m5, m6, hcn⟩ := hn
  have l8 := nums_len [r.ir.toNat, r.is.toNat, r.st.toNat, r.pn.toNat, r.pr.toNat, r.bn.toNat, r.br.toNat, r.sq.toNat] (by simp; omega)
  have l7 := nums_len [r.d0.toNat, r.d1.toNat, r.d2.toNat, r.d3.toNat, r.d4.toNat, r.d5.toNat, r.d6.toNat] (by simp; omega)
  simp only [List.length_cons, List.length_nil] at l8 l7
  refine fn_of_aw (drawsFz_ok dOk 32 1) Try.func44 rfl rfl rfl rfl rfl (by simp) rfl (by simp) ?_
  simp [Try.f44, -encB, enc2]
  repeat' (first | intro _ | with_reducible refine And.intro ?_ ?_ | exact chkI (by kernel_rfl) | exact backI (by kernel_rfl) | (refine callH (by first | ((refine ⟨?_, ?_, ?_, ?_⟩ <;> repeat' (first | exact rfl | exact Or.inl rfl | exact Or.inr rfl | exact trivial | with_reducible constructor | refine ⟨?_, ?_⟩ | (simp; done))); done) | fail) (c_numbers8 ..) ?_ <;> try simp [-encB, enc2]) | (refine callHD (by first | ((refine ⟨?_, ?_, ?_, ?_⟩ <;> repeat' (first | exact rfl | exact Or.inl rfl | exact Or.inr rfl | exact trivial | with_reducible constructor | refine ⟨?_, ?_⟩ | (simp; done))); done) | fail) (c_numbers8 ..) rfl ?_ <;> try simp [-encB, enc2]) | (refine callH (by first | ((refine ⟨?_, ?_, ?_, ?_⟩ <;> repeat' (first | exact rfl | exact Or.inl rfl | exact Or.inr rfl | exact trivial | with_reducible constructor | refine ⟨?_, ?_⟩ | (simp; done))); done) | fail) (c_numbers7 ..) ?_ <;> try simp [-encB, enc2]) | (refine callHD (by first | ((refine ⟨?_, ?_, ?_, ?_⟩ <;> repeat' (first | exact rfl | exact Or.inl rfl | exact Or.inr rfl | exact trivial | with_reducible constructor | refine ⟨?_, ?_⟩ | (simp; done))); done) | fail) (c_numbers7 ..) rfl ?_ <;> try simp [-encB, enc2]) | (refine callH (by first | ((refine ⟨?_, ?_, ?_, ?_⟩ <;> repeat' (first | exact rfl | exact Or.inl rfl | exact Or.inr rfl | exact trivial | with_reducible constructor | refine ⟨?_, ?_⟩ | (simp; done))); done) | fail) (c_numbers2 ..) ?_ <;> try simp [-encB, enc2]) | (refine callHD (by first | ((refine ⟨?_, ?_, ?_, ?_⟩ <;> repeat' (first | exact rfl | exact Or.inl rfl | exact Or.inr rfl | exact trivial | with_reducible constructor | refine ⟨?_, ?_⟩ | (simp; done))); done) | fail) (c_numbers2 ..) rfl ?_ <;> try simp [-encB, enc2]) | (refine callH (by first | ((refine ⟨?_, ?_, ?_, ?_⟩ <;> repeat' (first | exact rfl | exact Or.inl rfl | exact Or.inr rfl | exact trivial | with_reducible constructor | refine ⟨?_, ?_⟩ | (simp; done))); done) | fail) (c_numbers1 ..) ?_ <;> try simp [-encB, enc2]) | (refine callHD (by first | ((refine ⟨?_, ?_, ?_, ?_⟩ <;> repeat' (first | exact rfl | exact Or.inl rfl | exact Or.inr rfl | exact trivial | with_reducible constructor | refine ⟨?_, ?_⟩ | (simp; done))); done) | fail) (c_numbers1 ..) rfl ?_ <;> try simp [-encB, enc2]) | (refine callH (by first | ((refine ⟨?_, ?_, ?_, ?_⟩ <;> repeat' (first | exact rfl | exact Or.inl rfl | exact Or.inr rfl | exact trivial | with_reducible constructor | refine ⟨?_, ?_⟩ | (simp; done))); done) | fail) (c_numbers ..) ?_ <;> try simp [-encB, enc2]) | (refine callHD (by first | ((refine ⟨?_, ?_, ?_, ?_⟩ <;> repeat' (first | exact rfl | exact Or.inl rfl | exact Or.inr rfl | exact trivial | with_reducible constructor | refine ⟨?_, ?_⟩ | (simp; done))); done) | fail) (c_numbers ..) rfl ?_ <;> try simp [-encB, enc2]) | (refine callH (by first | ((refine ⟨?_, ?_, ?_, ?_⟩ <;> repeat' (first | exact rfl | exact Or.inl rfl | exact Or.inr rfl | exact trivial | with_reducible constructor | refine ⟨?_, ?_⟩ | (simp; done))); done) | fail) (c_truth ..) ?_ <;> try simp [-encB, enc2]) | (refine callHD (by first | ((refine ⟨?_, ?_, ?_, ?_⟩ <;> repeat' (first | exact rfl | exact Or.inl rfl | exact Or.inr rfl | exact trivial | with_reducible constructor | refine ⟨?_, ?_⟩ | (simp; done))); done) | fail) (c_truth ..) rfl ?_ <;> try simp [-encB, enc2]) | (refine callH (by first | ((refine ⟨?_, ?_, ?_, ?_⟩ <;> repeat' (first | exact rfl | exact Or.inl rfl | exact Or.inr rfl | exact trivial | with_reducible constructor | refine ⟨?_, ?_⟩ | (simp; done))); done) | fail) (c_putCmd ..) ?_ <;> try simp [-encB, enc2]) | (refine callHD (by first | ((refine ⟨?_, ?_, ?_, ?_⟩ <;> repeat' (first | exact rfl | exact Or.inl rfl | exact Or.inr rfl | exact trivial | with_reducible constructor | refine ⟨?_, ?_⟩ | (simp; done))); done) | fail) (c_putCmd ..) rfl ?_ <;> try simp [-encB, enc2]) | fail)
  all_goals first | omega | (simp only [List.length_append, List.length_cons, List.length_nil]; omega) | (refine St.to_chk [(1, 39)] ?_; simp [recB, -encB]; done)
end Go.Proofs.Ytalkadbpdaoifaa.AX
