/- Votes that count: the walk. -/
import Derived.Test.YtnchceblpogpmaaRe1
namespace Go.Proofs.Ytnchceblpogpmaa.AX
open Go Go.RowKit
set_option linter.unusedSimpArgs false
set_option linter.unusedVariables false
set_option maxRecDepth 100000
set_option maxHeartbeats 4000000
theorem votes_len {l : List VoteS} {x : List V} (h : x ∈ l.map VoteS.cs) : x.length = 26 := by
  obtain ⟨m, -, rfl⟩ := List.mem_map.1 h
  rfl
theorem c_counted (l : List VoteS) (hl : l.length ≤ 100 := by omega) : Fn Try.prog 24 [.sl (l.map VoteS.cs)] [] 0 (.tup [.rf 0, .rf 1]) [(0, .row false 63 26 ((counted l).map VoteS.cs)), (1, .map (mp (tally l)))] 2 := by
  refine fn_of_aw dOk Try.func24 rfl rfl rfl rfl rfl (by simp) rfl (by simp) ?_
  simp [Try.f24]
  refine aw_loopKM (α := {x : Nat × List VoteS × List (Int × Int) // x.1 ≤ l.length ∧ x.2.1 ++ pickN x.2.2 (l.drop x.1) = counted l ∧ (l.drop x.1).foldl (fun t v => bump t v.fr) x.2.2 = tally l ∧ Pos x.2.2 x.1 ∧ x.2.1.length ≤ x.1}) [2, 3, 5, 9, 10, 30, 31] (fun x => [(11, i64 (x.1.1 : Int)), (4, .rf 1)]) (fun x => [(1, .row false 63 26 (x.1.2.1.map VoteS.cs)), (0, .map (mp x.1.2.2))]) 2 (fun x => l.length - x.1.1) ⟨(0, [], []), by simp, rfl, rfl, fun p hp => by simp at hp, by simp⟩ ((St.to_own 4 63 26 rfl (by simp)).trans (St.to_chk [] (by simp [mp]))) ?_
  rintro ⟨⟨i, out, t⟩, j1, j2, j3, j4, j5⟩
  dsimp only at j1 j2 j3 j4 j5 ⊢
  by_cases hi : i < l.length
  · obtain ⟨v, hv⟩ := getL_some hi
    have hw := wrI hi (by omega)
    rw [dropL_at hv, List.foldl_cons] at j3
    rw [dropL_at hv, pickN] at j2
    have hp := pos_bump (k := v.fr) j4
    obtain ⟨jb, hb⟩ := cnt_bump (tl := t) (k := v.fr)
    rcases hc : cnt t v.fr with _ | ⟨j, n⟩
    · rw [hc] at j2 hb
      have hpm := push_mp hc
      have w1 : IntKind.i64.wrap 1 = 1 := wr64 (by omega) (by omega)
      simp [hv, findV_mp, hc, hpm, hb, w1, -List.map_append]
      simp at j2
      refine ⟨fun _ => ⟨⟨by omega, by omega⟩, ?_⟩, fun h => by omega⟩
      refine Exists.intro (i + 1) (And.intro (by omega) (Exists.intro (out ++ [v]) (Exists.intro (bump t v.fr) (And.intro ⟨by omega, by simpa using j2, j3, hp, by simp; omega⟩ (St.to_chk [(1, 4)] ?_)))))
      simp [hw]
    · rw [hc] at j2 hb
      obtain ⟨s1, s2⟩ := set_mp hc
      have hn := cnt_pos j4 hc
      have w1 : IntKind.i64.wrap (n + 1) = n + 1 := wr64 (by omega) (by omega)
      have hne := eq_false (show ¬ n + 1 = 1 by omega)
      simp [hv, findV_mp, hc, s1, s2, hb, w1, hne]
      simp at j2
      refine ⟨fun _ => ?_, fun h => by omega⟩
      refine Exists.intro (i + 1) (And.intro (by omega) (Exists.intro out (Exists.intro (bump t v.fr) (And.intro ⟨by omega, j2, j3, hp, by omega⟩ (St.to_chk [] ?_)))))
      simp [hw]
  · rw [List.drop_eq_nil_of_le (by omega)] at j2 j3
    simp only [pickN, List.append_nil] at j2
    simp only [List.foldl_nil] at j3
    simp [hi, j2, j3]
    exact St.to_chk [(0, 1), (1, 0)] (by simp)
end Go.Proofs.Ytnchceblpogpmaa.AX
