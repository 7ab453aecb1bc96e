/- Commands: the same, and such that may be. -/
import Derived.Test.YtalkadbpdaoifaaWi3
namespace Go.Proofs.Ytalkadbpdaoifaa.AX
open Go Go.RowKit
set_option linter.unusedSimpArgs false
set_option linter.unusedVariables false
set_option maxRecDepth 100000
set_option maxHeartbeats 4000000
def Cmd.same (a b : Cmd) : Bool := decide (a.kind = b.kind) && (decide (a.cl = b.cl) && (decide (a.nm = b.nm) && (decide (a.tm = b.tm) && (decide (a.ac = b.ac) && (decide (a.sh = b.sh) && (decide (a.cm = b.cm) && (eqL eqRd a.rs b.rs && eqL eqWr a.ws b.ws)))))))
theorem eqF {a : Bool} (h : a = false) : a = false := h
structure Cmd.Small (c : Cmd) : Prop where
  rl : c.rs.length ≤ 100
  wl : c.ws.length ≤ 100
  rk : ∀ r ∈ c.rs, r.key.size ≤ 100
  wk : ∀ w ∈ c.ws, w.key.size ≤ 100 ∧ w.val.size ≤ 100
theorem c_same (a b : Cmd) (ha : a.Small := by assumption) : Pure Try.prog 42 [.agg a.cs, .agg b.cs] (.bool (a.same b)) := by
  have h1 := ha.rl
  have h2 := ha.wl
  unfold Cmd.same
  refine pureQ_of_aw dOk Try.func42 rfl rfl rfl rfl rfl ?_
  simp [Try.f42]
  (repeat' (first | intro _ | with_reducible refine And.intro ?_ ?_ | exact chkI (by kernel_rfl) | exact backI (by kernel_rfl) | (refine callA (by first | rfl | (simp; done) | (simp; rfl)) (c_eqR ..) ?_ <;> try simp) | (refine callB (by first | rfl | (simp; done) | (simp; rfl)) (c_eqR ..) ?_ <;> try simp) | (refine callA (by first | rfl | (simp; done) | (simp; rfl)) (c_eqW ..) ?_ <;> try simp) | (refine callB (by first | rfl | (simp; done) | (simp; rfl)) (c_eqW ..) ?_ <;> try simp) | fail)) <;> (first | done | omega | (refine St.to_chk [] ?_; simp_all; done) | (simp_all; done) | grind)
theorem c_same' (a b : Cmd) (ha : a.Small := by assumption) : Pure Try.prog 40 [.agg a.cs, .agg b.cs] (.bool (a.same b)) := by
  have h1 := ha.rl
  have h2 := ha.wl
  have e1 : ∀ h, eqL eqRd a.rs b.rs = false := fun h => eqL_len (f := eqRd) (l := a.rs) (m := b.rs) h
  have e2 : ∀ h, eqL eqWr a.ws b.ws = false := fun h => eqL_len (f := eqWr) (l := a.ws) (m := b.ws) h
  refine pureQ_of_aw dOk Try.func40 rfl rfl rfl rfl rfl ?_
  simp [Try.f40]
  repeat' (first | intro _ | with_reducible refine And.intro ?_ ?_ | exact chkI (by kernel_rfl) | exact backI (by kernel_rfl) | fail)
  all_goals try (with_reducible refine eqF ?_; simp only [Cmd.same]; grind)
  ·
    rename_i g1 g2 g3 g4 g5 g6 g7 g8 g9
    replace g8 : a.rs.length = b.rs.length := by omega
    replace g9 : a.ws.length = b.ws.length := by omega
    have e : a.same b = (eqL eqRd a.rs b.rs && eqL eqWr a.ws b.ws) := by simp [Cmd.same, *]
    refine aw_loopK (α := {i : Nat // i ≤ a.rs.length ∧ eqL eqRd a.rs b.rs = eqL eqRd (a.rs.drop i) (b.rs.drop i)}) [2, 3, 6, 76, 77, 78, 79, 80, 81, 82, 83, 84, 85, 86, 87, 88, 89, 90, 91, 92, 93] (fun i => [(5, i64 i.1)]) (fun i => a.rs.length - i.1) ⟨0, by simp⟩ (by simp) ?_
    rintro ⟨i, j1, j2⟩
    dsimp only
    by_cases hi : i < a.rs.length
    · obtain ⟨x, hx⟩ := getL_some hi
      obtain ⟨y, hy⟩ := getL_some (l := b.rs) (i := i) (by omega)
      have hw := wrI hi (by omega)
      rw [eqL_step hx hy, eqRd] at j2
      simp [hx, hy]
      (repeat' (first | intro _ | with_reducible refine And.intro ?_ ?_ | exact chkI (by kernel_rfl) | exact backI (by kernel_rfl) | (refine Exists.intro (i + 1) (And.intro (by omega) (And.intro (And.intro (by omega) (by simp_all)) (St.to_chk [] (by simp_all))))) | fail)) <;> (first | done | omega | (refine St.to_chk [] ?_; simp_all; done) | (simp_all; done) | grind)
    · have hib : ¬ i < b.rs.length := by omega
      rw [List.drop_eq_nil_of_le (by omega), List.drop_eq_nil_of_le (by omega), eqL] at j2
      rw [j2] at e
      simp [hi]
      refine aw_loopK (α := {i : Nat // i ≤ a.ws.length ∧ eqL eqWr a.ws b.ws = eqL eqWr (a.ws.drop i) (b.ws.drop i)}) [2, 3] (fun i => [(6, i64 i.1)]) (fun i => a.ws.length - i.1) ⟨0, by simp⟩ (by simp) ?_
      rintro ⟨q, k1, k2⟩
      dsimp only
      by_cases hq : q < a.ws.length
      · obtain ⟨x, hx⟩ := getL_some hq
        obtain ⟨y, hy⟩ := getL_some (l := b.ws) (i := q) (by omega)
        have hw := wrI hq (by omega)
        rw [eqL_step hx hy, eqWr] at k2
        simp [hx, hy]
        (repeat' (first | intro _ | with_reducible refine And.intro ?_ ?_ | exact chkI (by kernel_rfl) | exact backI (by kernel_rfl) | (refine Exists.intro (q + 1) (And.intro (by omega) (And.intro (And.intro (by omega) (by simp_all)) (St.to_chk [] (by simp_all))))) | fail)) <;> (first | done | omega | (refine St.to_chk [] ?_; simp_all; done) | (simp_all; done) | grind)
      · rw [List.drop_eq_nil_of_le (by omega), List.drop_eq_nil_of_le (by omega), eqL] at k2
        rw [k2] at e
        simp [hq, e]
end Go.Proofs.Ytalkadbpdaoifaa.AX
