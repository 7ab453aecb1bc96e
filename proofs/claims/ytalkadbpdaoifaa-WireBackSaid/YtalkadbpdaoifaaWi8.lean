/- The same bytes; few commands. -/
import Derived.Test.YtalkadbpdaoifaaWi4
namespace Go.Proofs.Ytalkadbpdaoifaa.AX
open Go Go.RowKit
set_option linter.unusedSimpArgs false
set_option linter.unusedVariables false
set_option maxRecDepth 100000
set_option maxHeartbeats 4000000
@[simp high] theorem encB_get (l : List UInt8) (i : Nat) : (encB l)[i]? = (l[i]?).map fun b => [V.int .u8 (b.toNat : Int)] := by simp [encB]
@[simp] theorem encB_len (l : List UInt8) : (encB l).length = l.length := by simp [encB]
theorem drop_eq_step {l m : List UInt8} {i : Nat} {x y : UInt8} (hx : l[i]? = some x) (hy : m[i]? = some y) : decide (l.drop i = m.drop i) = (decide (x = y) && decide (l.drop (i + 1) = m.drop (i + 1))) := by
  rw [dropL_at hx, dropL_at hy]
  simp
theorem c_sameB (l m : List UInt8) (hl : l.length ≤ 4611686018427387904 := by omega) : Pure Try.prog 20 [.sl (encB l), .sl (encB m)] (.bool (decide (l = m))) := by
  by_cases hlen : l.length = m.length
  · have hlen' := eq_true (show (l.length : Int) = (m.length : Int) by omega)
    refine pureQ_of_aw dOk Try.func20 rfl rfl rfl rfl rfl ?_
    simp [Try.f20, hlen']
    refine aw_loopK (α := {i : Nat // i ≤ l.length ∧ decide (l = m) = decide (l.drop i = m.drop i)}) [0, 1, 12] (fun i => [(13, i64 i.1)]) (fun i => l.length - i.1) ⟨0, by simp⟩ (by simp) ?_
    rintro ⟨i, j1, j2⟩
    dsimp only
    by_cases hi : i < l.length
    · obtain ⟨x, hx⟩ := getL_some hi
      obtain ⟨y, hy⟩ := getL_some (l := m) (i := i) (by omega)
      have hw := wrI hi hl
      rw [drop_eq_step hx hy] at j2
      simp [hx, hy, encB_get, toNat_eq]
      (repeat' (first | intro _ | with_reducible refine And.intro ?_ ?_ | exact chkI (by kernel_rfl) | exact backI (by kernel_rfl) | (refine Exists.intro (i + 1) (And.intro (by omega) (And.intro (And.intro (by omega) (by first | (simp [*]; done) | grind | (simp_all; done) | (simp_all; omega))) (St.to_chk [] (by first | (simp [hw]; done) | (simp_all; done)))))) | fail)) <;> (first | done | omega | (refine St.to_chk [] ?_; simp_all; done) | (simp_all; done) | grind)
    · rw [List.drop_eq_nil_of_le (by omega), List.drop_eq_nil_of_le (by omega)] at j2
      have : ¬ i < m.length := by omega
      simp at j2
      simp [this, hi, j2]
  · have hlen' := eq_false (show ¬ (l.length : Int) = (m.length : Int) by omega)
    have : l ≠ m := fun e => hlen (by rw [e])
    refine pureQ_of_aw dOk Try.func20 rfl rfl rfl rfl rfl ?_
    simp [Try.f20, hlen', this]
end Go.Proofs.Ytalkadbpdaoifaa.AX
