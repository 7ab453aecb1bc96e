/- Whether a fast quorum may have been. -/
import Derived.Test.YtnchceblpogpmaaRe5
namespace Go.Proofs.Ytnchceblpogpmaa.AX
open Go Go.RowKit
set_option linter.unusedSimpArgs false
set_option linter.unusedVariables false
set_option maxRecDepth 100000
set_option maxHeartbeats 4000000
def quickN (l : List VoteS) : Int := ((l.filter VoteS.quick).length : Int)
def fastS (f ir is : Int) (l : List VoteS) : Bool := decide (mayE f ir is (counted l) = 0) && ((cnt (tally l) ir).isNone && decide (f ≤ quickN (counted l)))
theorem pickN_le : ∀ (l : List VoteS) (t : List (Int × Int)), (pickN t l).length ≤ l.length
  | [], t => by simp [pickN]
  | v :: r, t => by
    rw [pickN]
    have := pickN_le r (bump t v.fr)
    split <;> simp <;> omega
theorem pickN_mem : ∀ (l : List VoteS) (t : List (Int × Int)) (v : VoteS), v ∈ pickN t l → v ∈ l
  | [], t, v, h => by simp [pickN] at h
  | a :: r, t, v, h => by
    rw [pickN] at h
    split at h
    · exact List.mem_cons_of_mem _ (pickN_mem r _ v h)
    · rcases List.mem_cons.1 h with rfl | h
      · simp
      · exact List.mem_cons_of_mem _ (pickN_mem r _ v h)
theorem c_Fast (f ir is : Int) (l : List VoteS) (hl : l.length ≤ 100 := by assumption) (hs : ∀ v ∈ l, v.r.c.Small := by assumption) : Pure Try.prog 14 [i64 f, .agg [i64 ir, i64 is], .sl (l.map VoteS.cs)] (.bool (fastS f ir is l)) := by
  have hcl : (counted l).length ≤ 100 := Nat.le_trans (pickN_le l []) hl
  have hcs : ∀ v ∈ counted l, v.r.c.Small := fun v hv => hs v (pickN_mem l [] v hv)
  have hpos := pos_tally l
  rcases hm : decide (mayE f ir is (counted l) = 0) with _ | _
  · have hm' := eq_false (of_decide_eq_false hm)
    have e : fastS f ir is l = false := by simp [fastS, hm']
    rw [e]
    refine pureQ_of_aw dOk Try.func14 rfl rfl rfl rfl rfl ?_
    simp [Try.f14]
    repeat' (first | intro _ | with_reducible refine And.intro ?_ ?_ | exact chkI (by kernel_rfl) | exact backI (by kernel_rfl) | (refine callH (by first | ((refine ⟨?_, ?_, ?_, ?_⟩ <;> repeat' (first | exact rfl | exact Or.inl rfl | exact Or.inr rfl | exact trivial | with_reducible constructor | refine ⟨?_, ?_⟩ | (simp; done))); done) | fail) (c_counted ..) ?_ <;> try simp [hm', findV_mp]) | (refine callHD (by first | ((refine ⟨?_, ?_, ?_, ?_⟩ <;> repeat' (first | exact rfl | exact Or.inl rfl | exact Or.inr rfl | exact trivial | with_reducible constructor | refine ⟨?_, ?_⟩ | (simp; done))); done) | fail) (c_counted ..) rfl ?_ <;> try simp [hm', findV_mp]) | (refine callA (by first | rfl | (simp; done) | (simp; rfl)) (c_fast ..) ?_ <;> try simp [hm', findV_mp]) | (refine callB (by first | rfl | (simp; done) | (simp; rfl)) (c_fast ..) ?_ <;> try simp [hm', findV_mp]) | (refine callA (by first | rfl | (simp; done) | (simp; rfl)) (c_may ..) ?_ <;> try simp [hm', findV_mp]) | (refine callB (by first | rfl | (simp; done) | (simp; rfl)) (c_may ..) ?_ <;> try simp [hm', findV_mp]) | fail)
  · have hm' := eq_true (of_decide_eq_true hm)
    rcases hc : cnt (tally l) ir with _ | ⟨j, n⟩
    · refine pureQ_of_aw dOk Try.func14 rfl rfl rfl rfl rfl ?_
      simp [Try.f14]
      repeat' (first | intro _ | with_reducible refine And.intro ?_ ?_ | exact chkI (by kernel_rfl) | exact backI (by kernel_rfl) | (refine callH (by first | ((refine ⟨?_, ?_, ?_, ?_⟩ <;> repeat' (first | exact rfl | exact Or.inl rfl | exact Or.inr rfl | exact trivial | with_reducible constructor | refine ⟨?_, ?_⟩ | (simp; done))); done) | fail) (c_counted ..) ?_ <;> try simp [hm', findV_mp, hc]) | (refine callHD (by first | ((refine ⟨?_, ?_, ?_, ?_⟩ <;> repeat' (first | exact rfl | exact Or.inl rfl | exact Or.inr rfl | exact trivial | with_reducible constructor | refine ⟨?_, ?_⟩ | (simp; done))); done) | fail) (c_counted ..) rfl ?_ <;> try simp [hm', findV_mp, hc]) | (refine callA (by first | rfl | (simp; done) | (simp; rfl)) (c_fast ..) ?_ <;> try simp [hm', findV_mp, hc]) | (refine callB (by first | rfl | (simp; done) | (simp; rfl)) (c_fast ..) ?_ <;> try simp [hm', findV_mp, hc]) | (refine callA (by first | rfl | (simp; done) | (simp; rfl)) (c_may ..) ?_ <;> try simp [hm', findV_mp, hc]) | (refine callB (by first | rfl | (simp; done) | (simp; rfl)) (c_may ..) ?_ <;> try simp [hm', findV_mp, hc]) | fail)
      refine aw_loopKM (α := {i : Nat // i ≤ (counted l).length}) [0, 6, 28, 29, 39, 40, 41] (fun i => [(30, i64 i.1), (8, i64 (quickN ((counted l).take i.1)))]) (fun _ => [(1, .row false 63 26 ((counted l).map VoteS.cs))]) 3 (fun i => (counted l).length - i.1) ⟨0, by simp⟩ (St.to_chk [] (by simp [quickN])) ?_
      rintro ⟨i, j1⟩
      dsimp only
      by_cases hi : i < (counted l).length
      · obtain ⟨v, hv⟩ := getL_some hi
        have hw := wrI hi (by omega)
        have hq0 : quickN ((counted l).take i) ≤ i := by
          have := List.length_filter_le VoteS.quick ((counted l).take i)
          simp only [quickN, List.length_take] at this ⊢
          omega
        have hq1 : 0 ≤ quickN ((counted l).take i) := by simp only [quickN]; omega
        have hw2 : IntKind.i64.wrap (quickN ((counted l).take i) + 1) = quickN ((counted l).take i) + 1 := wr64 (by omega) (by omega)
        have ht : quickN ((counted l).take (i + 1)) = quickN ((counted l).take i) + (if v.quick = true then 1 else 0) := by
          simp only [quickN]
          rw [List.take_add_one, hv, List.filter_append]
          by_cases hk : v.quick = true <;> simp [hk]
        rcases hk : v.quick with _ | _
        · rw [hk] at ht
          simp [hv]
          repeat' (first | intro _ | with_reducible refine And.intro ?_ ?_ | exact chkI (by kernel_rfl) | exact backI (by kernel_rfl) | (refine callH (by first | ((refine ⟨?_, ?_, ?_, ?_⟩ <;> repeat' (first | exact rfl | exact Or.inl rfl | exact Or.inr rfl | exact trivial | with_reducible constructor | refine ⟨?_, ?_⟩ | (simp; done))); done) | fail) (c_counted ..) ?_ <;> try simp [hv, hk]) | (refine callHD (by first | ((refine ⟨?_, ?_, ?_, ?_⟩ <;> repeat' (first | exact rfl | exact Or.inl rfl | exact Or.inr rfl | exact trivial | with_reducible constructor | refine ⟨?_, ?_⟩ | (simp; done))); done) | fail) (c_counted ..) rfl ?_ <;> try simp [hv, hk]) | (refine callA (by first | rfl | (simp; done) | (simp; rfl)) (c_fast ..) ?_ <;> try simp [hv, hk]) | (refine callB (by first | rfl | (simp; done) | (simp; rfl)) (c_fast ..) ?_ <;> try simp [hv, hk]) | (refine callA (by first | rfl | (simp; done) | (simp; rfl)) (c_may ..) ?_ <;> try simp [hv, hk]) | (refine callB (by first | rfl | (simp; done) | (simp; rfl)) (c_may ..) ?_ <;> try simp [hv, hk]) | fail)
          all_goals first | omega | (refine Exists.intro (i + 1) (And.intro (by omega) (And.intro (by omega) (St.to_chk [] ?_))); rw [ht]; simp [hw]; done)
        · rw [hk] at ht
          simp [hv]
          repeat' (first | intro _ | with_reducible refine And.intro ?_ ?_ | exact chkI (by kernel_rfl) | exact backI (by kernel_rfl) | (refine callH (by first | ((refine ⟨?_, ?_, ?_, ?_⟩ <;> repeat' (first | exact rfl | exact Or.inl rfl | exact Or.inr rfl | exact trivial | with_reducible constructor | refine ⟨?_, ?_⟩ | (simp; done))); done) | fail) (c_counted ..) ?_ <;> try simp [hv, hk]) | (refine callHD (by first | ((refine ⟨?_, ?_, ?_, ?_⟩ <;> repeat' (first | exact rfl | exact Or.inl rfl | exact Or.inr rfl | exact trivial | with_reducible constructor | refine ⟨?_, ?_⟩ | (simp; done))); done) | fail) (c_counted ..) rfl ?_ <;> try simp [hv, hk]) | (refine callA (by first | rfl | (simp; done) | (simp; rfl)) (c_fast ..) ?_ <;> try simp [hv, hk]) | (refine callB (by first | rfl | (simp; done) | (simp; rfl)) (c_fast ..) ?_ <;> try simp [hv, hk]) | (refine callA (by first | rfl | (simp; done) | (simp; rfl)) (c_may ..) ?_ <;> try simp [hv, hk]) | (refine callB (by first | rfl | (simp; done) | (simp; rfl)) (c_may ..) ?_ <;> try simp [hv, hk]) | fail)
          all_goals first | omega | (refine Exists.intro (i + 1) (And.intro (by omega) (And.intro (by omega) (St.to_chk [] ?_))); rw [ht]; simp [hw, hw2]; done)
      · have hle : (counted l).length ≤ i := by omega
        rw [List.take_of_length_le hle]
        have e : fastS f ir is l = decide (f ≤ quickN (counted l)) := by simp [fastS, hm', hc]
        rw [e]
        simp [hi]
        repeat' (first | intro _ | with_reducible refine And.intro ?_ ?_ | exact chkI (by kernel_rfl) | exact backI (by kernel_rfl) | (refine callH (by first | ((refine ⟨?_, ?_, ?_, ?_⟩ <;> repeat' (first | exact rfl | exact Or.inl rfl | exact Or.inr rfl | exact trivial | with_reducible constructor | refine ⟨?_, ?_⟩ | (simp; done))); done) | fail) (c_counted ..) ?_ <;> try simp) | (refine callHD (by first | ((refine ⟨?_, ?_, ?_, ?_⟩ <;> repeat' (first | exact rfl | exact Or.inl rfl | exact Or.inr rfl | exact trivial | with_reducible constructor | refine ⟨?_, ?_⟩ | (simp; done))); done) | fail) (c_counted ..) rfl ?_ <;> try simp) | (refine callA (by first | rfl | (simp; done) | (simp; rfl)) (c_fast ..) ?_ <;> try simp) | (refine callB (by first | rfl | (simp; done) | (simp; rfl)) (c_fast ..) ?_ <;> try simp) | (refine callA (by first | rfl | (simp; done) | (simp; rfl)) (c_may ..) ?_ <;> try simp) | (refine callB (by first | rfl | (simp; done) | (simp; rfl)) (c_may ..) ?_ <;> try simp) | fail)
        all_goals first | omega
    · have hn := cnt_pos hpos hc
      have h0 := eq_true (show 0 < n by omega)
      have e : fastS f ir is l = false := by simp [fastS, hc]
      rw [e]
      refine pureQ_of_aw dOk Try.func14 rfl rfl rfl rfl rfl ?_
      simp [Try.f14]
      repeat' (first | intro _ | with_reducible refine And.intro ?_ ?_ | exact chkI (by kernel_rfl) | exact backI (by kernel_rfl) | (refine callH (by first | ((refine ⟨?_, ?_, ?_, ?_⟩ <;> repeat' (first | exact rfl | exact Or.inl rfl | exact Or.inr rfl | exact trivial | with_reducible constructor | refine ⟨?_, ?_⟩ | (simp; done))); done) | fail) (c_counted ..) ?_ <;> try simp [hm', findV_mp, hc, h0]) | (refine callHD (by first | ((refine ⟨?_, ?_, ?_, ?_⟩ <;> repeat' (first | exact rfl | exact Or.inl rfl | exact Or.inr rfl | exact trivial | with_reducible constructor | refine ⟨?_, ?_⟩ | (simp; done))); done) | fail) (c_counted ..) rfl ?_ <;> try simp [hm', findV_mp, hc, h0]) | (refine callA (by first | rfl | (simp; done) | (simp; rfl)) (c_fast ..) ?_ <;> try simp [hm', findV_mp, hc, h0]) | (refine callB (by first | rfl | (simp; done) | (simp; rfl)) (c_fast ..) ?_ <;> try simp [hm', findV_mp, hc, h0]) | (refine callA (by first | rfl | (simp; done) | (simp; rfl)) (c_may ..) ?_ <;> try simp [hm', findV_mp, hc, h0]) | (refine callB (by first | rfl | (simp; done) | (simp; rfl)) (c_may ..) ?_ <;> try simp [hm', findV_mp, hc, h0]) | fail)
end Go.Proofs.Ytnchceblpogpmaa.AX
