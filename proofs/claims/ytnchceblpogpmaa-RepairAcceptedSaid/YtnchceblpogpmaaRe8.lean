/- Votes that count, as the document has them: the walk. -/
import Derived.Test.YtnchceblpogpmaaRe7
namespace Go.Proofs.Ytnchceblpogpmaa.AX
open Go Go.RowKit
set_option linter.unusedSimpArgs false
set_option linter.unusedVariables false
set_option maxRecDepth 100000
set_option maxHeartbeats 4000000
def heard (l : List VoteS) (v : VoteS) : Bool := l.any fun u => decide (u.fr = v.fr)
theorem heard_next {l : List VoteS} {j : Nat} {u v : VoteS} (h : l[j]? = some u) : heard (l.take (j + 1)) v = (heard (l.take j) v || decide (u.fr = v.fr)) := by
  unfold heard
  rw [List.take_add_one, h]
  simp
theorem c_rCounted (l : List VoteS) (hl : l.length ≤ 100 := by assumption) : Pure Try.prog 23 [.sl (l.map VoteS.cs)] (.sl ((counted l).map VoteS.cs)) := by
  refine pureQ_of_aw dOk Try.func23 rfl rfl rfl rfl rfl ?_
  simp [Try.f23]
  refine aw_loopKM (α := {k : Nat // k ≤ l.length}) [0, 2, 41] (fun k => [(4, i64 k.1), (3, .rf 0)]) (fun k => [(0, .row false 56 26 ((counted (l.take k.1)).map VoteS.cs))]) 1 (fun k => l.length - k.1) ⟨0, by simp⟩ ((St.to_own 3 56 26 rfl (by simp)).trans (St.to_chk [] (by simp [counted, pickN]))) ?_
  rintro ⟨k, j1⟩
  dsimp only
  by_cases hk : k < l.length
  · obtain ⟨v, hv⟩ := getL_some hk
    have hw := wrI hk (by omega)
    have hn : counted (l.take (k + 1)) = counted (l.take k) ++ (if heard (l.take k) v = true then [] else [v]) := counted_next hv
    have hcl : (counted (l.take k)).length ≤ 100 := by
      have := pickN_le (l.take k) []
      simp only [List.length_take] at this
      unfold counted
      omega
    simp [hv]
    refine ⟨fun _ => ?_, fun h => by omega⟩
    refine aw_loopK (α := {j : Nat // j ≤ k}) [0, 2, 3, 4, 7, 8, 9, 10, 11, 12, 32, 33, 34, 35, 36, 37, 38, 39, 40, 41] (fun j => [(6, i64 j.1), (5, .bool (heard (l.take j.1) v))]) (fun j => k - j.1) ⟨0, by simp⟩ (by simp [heard]) ?_
    rintro ⟨j, j2⟩
    dsimp only
    by_cases hj : j < k
    · obtain ⟨u, hu⟩ := getL_some (l := l) (i := j) (by omega)
      have hw2 : IntKind.i64.wrap ((j : Int) + 1) = (j : Int) + 1 := wr64 (by omega) (by omega)
      have hh := heard_next (v := v) hu
      rcases hb : heard (l.take j) v with _ | _
      · rw [hb] at hh
        simp [hu, hv]
        repeat' (first | intro _ | with_reducible refine And.intro ?_ ?_ | exact chkI (by kernel_rfl) | exact backI (by kernel_rfl) | fail)
        all_goals first | omega | (refine Exists.intro (j + 1) (And.intro (by omega) (And.intro (by omega) (St.to_chk [] ?_))); rw [hh]; simp [hw2, *]; done)
      · rw [hb] at hh
        simp [hu, hv]
        repeat' (first | intro _ | with_reducible refine And.intro ?_ ?_ | exact chkI (by kernel_rfl) | exact backI (by kernel_rfl) | fail)
        all_goals first | omega | (refine Exists.intro (j + 1) (And.intro (by omega) (And.intro (by omega) (St.to_chk [] ?_))); rw [hh]; simp [hw2]; done)
    · obtain rfl : j = k := by omega
      rcases hb : heard (l.take j) v with _ | _
      · rw [hb] at hn
        simp [hv]
        repeat' (first | intro _ | with_reducible refine And.intro ?_ ?_ | exact chkI (by kernel_rfl) | exact backI (by kernel_rfl) | fail)
        all_goals first | omega | exact votes_len (by assumption) | (refine Exists.intro (j + 1) (And.intro (by omega) (And.intro (by omega) (St.to_chk [(0, 2)] ?_))); rw [hn]; simp [hw]; done)
      · rw [hb] at hn
        simp [hv]
        repeat' (first | intro _ | with_reducible refine And.intro ?_ ?_ | exact chkI (by kernel_rfl) | exact backI (by kernel_rfl) | fail)
        all_goals first | omega | (refine Exists.intro (j + 1) (And.intro (by omega) (And.intro (by omega) (St.to_chk [] ?_))); rw [hn]; simp [hw]; done)
  · rw [List.take_of_length_le (by omega)]
    simp [hk]
    repeat' (first | intro _ | with_reducible refine And.intro ?_ ?_ | exact chkI (by kernel_rfl) | exact backI (by kernel_rfl) | fail)
    all_goals first | omega
end Go.Proofs.Ytnchceblpogpmaa.AX
