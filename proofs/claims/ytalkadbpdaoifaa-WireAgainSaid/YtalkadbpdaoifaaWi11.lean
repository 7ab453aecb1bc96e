/- Commands as bytes. -/
import Derived.Test.YtalkadbpdaoifaaWi10
namespace Go.Proofs.Ytalkadbpdaoifaa.AX
open Go Go.RowKit
set_option linter.unusedSimpArgs false
set_option linter.unusedVariables false
set_option maxRecDepth 100000
set_option maxHeartbeats 4000000
theorem c_numbers2 (p : List UInt8) (a b : Int) (ha : 0 ≤ a ∧ a ≤ 4611686018427387904 := by omega) (hb : 0 ≤ b ∧ b ≤ 4611686018427387904 := by omega) (hp : p.length ≤ 900000000 := by first | omega | (simp only [List.length_append, List.length_cons, List.length_nil]; omega)) :
    Fn Try.prog 45 [.rf 0, .sl [[i64 a], [i64 b]]] [(0, .row false 5 1 (encB p))] 1 (.rf 1) [(1, .row false 5 1 (encB (p ++ nums [a.toNat, b.toNat]))), (0, .gone)] 2 := by
  have := c_numbersI p [a, b] (by simpa using ⟨ha, hb⟩) (by
    have := nums_len ([a, b].map Int.toNat) (by simp; omega)
    simp only [List.length_append]
    simp only [List.length_map, List.length_cons, List.length_nil] at this
    omega)
  simpa using this
def rdB (r : Rd) : List UInt8 := nums [r.key.size] ++ r.key.data.toList ++ nums [r.tm.toNat, r.ac.toNat]
def wrB (w : Wr) : List UInt8 := nums [w.key.size] ++ w.key.data.toList ++ (nums [w.val.size] ++ w.val.data.toList)
def cmdB (c : Cmd) : List UInt8 := [1] ++ nums [c.kind.toNat, c.cl.toNat, c.nm.toNat, c.tm.toNat, c.ac.toNat, c.sh.toNat, c.rs.length] ++ c.rs.flatMap rdB ++ nums [c.ws.length] ++ c.ws.flatMap wrB ++ [if c.cm then 1 else 0]
theorem c_numbers7 (p : List UInt8) (a b c d e f g : Int) (ha : 0 ≤ a ∧ a ≤ 4611686018427387904 := by omega) (hb : 0 ≤ b ∧ b ≤ 4611686018427387904 := by omega) (hc : 0 ≤ c ∧ c ≤ 4611686018427387904 := by omega) (hd : 0 ≤ d ∧ d ≤ 4611686018427387904 := by omega)
    (he : 0 ≤ e ∧ e ≤ 4611686018427387904 := by omega) (hf : 0 ≤ f ∧ f ≤ 4611686018427387904 := by omega) (hg : 0 ≤ g ∧ g ≤ 4611686018427387904 := by omega) (hp : p.length ≤ 900000000 := by first | omega | (simp only [List.length_append, List.length_cons, List.length_nil]; omega)) :
    Fn Try.prog 45 [.rf 0, .sl [[i64 a], [i64 b], [i64 c], [i64 d], [i64 e], [i64 f], [i64 g]]] [(0, .row false 5 1 (encB p))] 1 (.rf 1) [(1, .row false 5 1 (encB (p ++ nums [a.toNat, b.toNat, c.toNat, d.toNat, e.toNat, f.toNat, g.toNat]))), (0, .gone)] 2 := by
  have hall : ∀ x ∈ [a, b, c, d, e, f, g], 0 ≤ x ∧ x ≤ 4611686018427387904 := by
    intro x hx
    simp only [List.mem_cons, List.not_mem_nil, or_false] at hx
    rcases hx with rfl | rfl | rfl | rfl | rfl | rfl | rfl <;> assumption
  have := c_numbersI p [a, b, c, d, e, f, g] hall (by
    have := nums_len ([a, b, c, d, e, f, g].map Int.toNat) (fun n hn => by
      obtain ⟨x, hx, rfl⟩ := List.mem_map.1 hn
      have := hall x hx
      omega)
    simp only [List.length_append]
    simp only [List.length_map, List.length_cons, List.length_nil] at this
    omega)
  simpa using this
end Go.Proofs.Ytalkadbpdaoifaa.AX
