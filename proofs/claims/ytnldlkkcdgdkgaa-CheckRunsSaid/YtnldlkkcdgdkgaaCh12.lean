/- The first one that read something else than was there, as the document has it. -/
import Derived.Test.YtnldlkkcdgdkgaaCh8
import Derived.Test.YtnldlkkcdgdkgaaCh10
import Derived.Test.YtnldlkkcdgdkgaaCh11
namespace Go.Proofs.Ytnldlkkcdgdkgaa.AX
open Go Go.RowKit
set_option linter.unusedSimpArgs false
set_option linter.unusedVariables false
set_option maxRecDepth 100000
set_option maxHeartbeats 4000000
def clash1 (t u : Trp) : Bool := decide (t.cl = u.cl ∧ t.nm = u.nm) || (isCm t && (isCm u && decide (t.tm = u.tm ∧ t.ac = u.ac)))
theorem clashT_any (t : Trp) : ∀ p : List Trp, clashT p t = p.any (clash1 t)
  | [] => by simp [clashT]
  | u :: r => by
    have ih := clashT_any t r
    rw [List.any_cons, ← ih]
    unfold clashT clash1
    have e1 : (nmP t = nmP u) = (t.cl = u.cl ∧ t.nm = u.nm) := by simp [nmP]
    have e2 : (tmP t = tmP u) = (t.tm = u.tm ∧ t.ac = u.ac) := by simp [tmP]
    simp only [List.map_cons, List.mem_cons, e1, List.filter_cons]
    rcases hc : isCm t with _ | _
    · simp
    · rcases hu : isCm u with _ | _
      · simp only [Bool.false_eq_true, if_false, Bool.true_and, Bool.false_and, Bool.or_false]
        by_cases a1 : t.cl = u.cl ∧ t.nm = u.nm <;> simp [a1]
      · simp only [if_true, List.map_cons, List.mem_cons, e2, Bool.true_and]
        by_cases a1 : t.cl = u.cl ∧ t.nm = u.nm <;> by_cases a2 : t.tm = u.tm ∧ t.ac = u.ac <;> simp [a1, a2]
theorem c_Check' (l : List Trp) (hl : l.length ≤ 19 := by assumption) (hs : ∀ t ∈ l, t.Small := by assumption) : Pure Try.prog 13 [.sl (l.map Trp.cs)] (.tup [i64 (cheI (thereR l) l), i64 (cheE (thereR l) l)]) := by
  have hl2 : l.length ≤ 100 := by omega
  refine pureQ_of_aw dOk Try.func13 rfl rfl rfl rfl rfl ?_
  simp [Try.f13]
  refine aw_loopK (α := {i : Nat // i ≤ l.length ∧ l.all rightT = (l.drop i).all rightT}) [0, 5, 6, 7, 8, 9, 10, 11, 24, 25, 26, 27, 28, 29, 30, 31, 32, 33, 34, 35, 36, 37, 38, 39, 40, 41, 42, 43, 44, 45, 46, 47, 48, 49, 50, 51, 52, 53, 54, 55, 56, 57, 58, 59, 60, 61, 62, 63, 64, 65, 66, 67, 68, 69, 70, 71, 72, 73, 74, 75, 76, 77, 78, 79, 80, 81, 82, 83, 84, 85, 86, 87, 88, 89, 90, 91, 92, 93, 94, 95, 96, 97, 98, 99, 100, 101, 102, 103, 104, 105, 106, 107, 108, 109, 110, 111, 112, 113, 114, 115, 116, 117, 118, 119, 120, 121, 122, 123, 124, 125, 126, 127, 128, 129] (fun i => [(4, i64 i.1)]) (fun i => l.length - i.1) ⟨0, by simp⟩ (by simp) ?_
  rintro ⟨i, j1, j2⟩
  dsimp only
  by_cases hi : i < l.length
  · obtain ⟨t, ht⟩ := getL_some hi
    have hw := wrI hi (by omega)
    have hsm := hs t (List.mem_of_getElem? ht)
    rw [dropL_at ht, List.all_cons] at j2
    rcases hr : rightT t with _ | _
    · have e : l.all rightT = false := by rw [j2, hr]; rfl
      rw [show cheI (thereR l) l = -1 from if_pos e, show cheE (thereR l) l = 1 from if_pos e]
      simp [ht]
      refine ⟨fun _ => ?_, fun h => by omega⟩
      repeat' (first | intro _ | with_reducible refine And.intro ?_ ?_ | exact chkI (by kernel_rfl) | exact backI (by kernel_rfl) | (refine callA (by first | rfl | (simp; done) | (simp; rfl)) (c_right' ..) ?_ <;> try simp [ht, hr]) | (refine callB (by first | rfl | (simp; done) | (simp; rfl)) (c_right' ..) ?_ <;> try simp [ht, hr]) | (refine callA (by first | rfl | (simp; done) | (simp; rfl)) (c_there' ..) ?_ <;> try simp [ht, hr]) | (refine callB (by first | rfl | (simp; done) | (simp; rfl)) (c_there' ..) ?_ <;> try simp [ht, hr]) | fail)
      all_goals first | omega
    · rw [hr, Bool.true_and] at j2
      simp [ht, -List.all_eq_true]
      refine ⟨fun _ => ?_, fun h => by omega⟩
      repeat' (first | intro _ | with_reducible refine And.intro ?_ ?_ | exact chkI (by kernel_rfl) | exact backI (by kernel_rfl) | (refine callA (by first | rfl | (simp; done) | (simp; rfl)) (c_right' ..) ?_ <;> try simp [ht, hr, -List.all_eq_true]) | (refine callB (by first | rfl | (simp; done) | (simp; rfl)) (c_right' ..) ?_ <;> try simp [ht, hr, -List.all_eq_true]) | (refine callA (by first | rfl | (simp; done) | (simp; rfl)) (c_there' ..) ?_ <;> try simp [ht, hr, -List.all_eq_true]) | (refine callB (by first | rfl | (simp; done) | (simp; rfl)) (c_there' ..) ?_ <;> try simp [ht, hr, -List.all_eq_true]) | fail)
      all_goals first | omega | exact Exists.intro (i + 1) (And.intro (by omega) (And.intro (And.intro (by omega) j2) (St.to_chk [] (by simp [hw]))))
  · rw [List.drop_eq_nil_of_le (by omega), List.all_nil] at j2
    simp [hi]
    refine aw_loopK (α := {i : Nat // i ≤ l.length ∧ twG (l.take i) (l.drop i) = twiceS l}) [0, 7, 8, 9, 10, 11, 75, 76, 77, 78, 79, 80, 81, 82, 83, 84, 85, 86, 87, 88, 89, 90, 91, 92, 93, 94, 95, 96, 97, 98, 99, 100, 101, 102, 103, 104, 105, 106, 107, 108, 109, 110, 111, 112, 113, 114, 115, 116, 117, 118, 119, 120, 121, 122, 123, 124, 125, 126, 127, 128, 129] (fun i => [(5, i64 i.1)]) (fun i => l.length - i.1) ⟨0, by simp, rfl⟩ (by simp) ?_
    rintro ⟨i, j3, j4⟩
    dsimp only
    by_cases hi : i < l.length
    · obtain ⟨t, ht⟩ := getL_some hi
      have hw := wrI hi (by omega)
      have ht1 : l.take (i + 1) = l.take i ++ [t] := by rw [List.take_add_one, ht]; rfl
      rw [dropL_at ht, twG, ← ht1] at j4
      simp [hi]
      refine aw_loopK (α := {k : Nat // k ≤ i ∧ clashT (l.take i) t = ((l.take i).drop k).any (clash1 t)}) [0, 5, 7, 8, 9, 10, 11, 24, 25, 26, 27, 28, 29, 75, 76, 77, 78, 79, 80, 81, 82, 83, 84, 85, 86, 87, 88, 89, 90, 91, 92, 93, 94, 95, 96, 97, 98, 99, 100, 101, 102, 103, 104, 105, 106, 107, 108, 109, 110, 111, 112, 113, 114, 115, 116, 117, 118, 119, 120, 121, 122, 123, 124, 125, 126, 127, 128, 129] (fun k => [(6, i64 k.1)]) (fun k => i - k.1) ⟨0, by simp, by rw [clashT_any]; rfl⟩ (by simp) ?_
      rintro ⟨k, k1, k2⟩
      dsimp only
      by_cases hk : k < i
      · obtain ⟨u, hu⟩ := getL_some (l := l) (i := k) (by omega)
        have hwk : IntKind.i64.wrap ((k : Int) + 1) = (k : Int) + 1 := wr64 (by omega) (by omega)
        have hu2 : (l.take i)[k]? = some u := by rw [List.getElem?_take, if_pos hk]; exact hu
        rw [dropL_at hu2, List.any_cons] at k2
        rcases hb : clash1 t u with _ | _
        · rw [hb, Bool.false_or] at k2
          have hb2 := hb
          simp only [clash1, Bool.or_eq_false_iff, decide_eq_false_iff_not] at hb2
          obtain ⟨q1, q2⟩ := hb2
          by_cases n1 : t.cl = u.cl
          · have n1' := eq_true n1
            have n2' := eq_false (fun n2 => q1 ⟨n1, n2⟩)
            rcases hc : isCm t with _ | _
            · have hc' := eq_false (of_decide_eq_false hc)
              simp [ht, hu, n1', n2', hc']
              repeat' (first | intro _ | with_reducible refine And.intro ?_ ?_ | exact chkI (by kernel_rfl) | exact backI (by kernel_rfl) | (refine callA (by first | rfl | (simp; done) | (simp; rfl)) (c_right' ..) ?_ <;> try simp [ht, hu, n1', n2', hc']) | (refine callB (by first | rfl | (simp; done) | (simp; rfl)) (c_right' ..) ?_ <;> try simp [ht, hu, n1', n2', hc']) | (refine callA (by first | rfl | (simp; done) | (simp; rfl)) (c_there' ..) ?_ <;> try simp [ht, hu, n1', n2', hc']) | (refine callB (by first | rfl | (simp; done) | (simp; rfl)) (c_there' ..) ?_ <;> try simp [ht, hu, n1', n2', hc']) | fail)
              all_goals first | omega | (exfalso; omega) | exact Exists.intro (k + 1) (And.intro (by omega) (And.intro (And.intro (by omega) k2) (St.to_chk [] (by simp [hwk]))))
            · have hc' := eq_true (of_decide_eq_true hc)
              rcases hd : isCm u with _ | _
              · have hd' := eq_false (of_decide_eq_false hd)
                simp [ht, hu, n1', n2', hc', hd']
                repeat' (first | intro _ | with_reducible refine And.intro ?_ ?_ | exact chkI (by kernel_rfl) | exact backI (by kernel_rfl) | (refine callA (by first | rfl | (simp; done) | (simp; rfl)) (c_right' ..) ?_ <;> try simp [ht, hu, n1', n2', hc', hd']) | (refine callB (by first | rfl | (simp; done) | (simp; rfl)) (c_right' ..) ?_ <;> try simp [ht, hu, n1', n2', hc', hd']) | (refine callA (by first | rfl | (simp; done) | (simp; rfl)) (c_there' ..) ?_ <;> try simp [ht, hu, n1', n2', hc', hd']) | (refine callB (by first | rfl | (simp; done) | (simp; rfl)) (c_there' ..) ?_ <;> try simp [ht, hu, n1', n2', hc', hd']) | fail)
                all_goals first | omega | (exfalso; omega) | exact Exists.intro (k + 1) (And.intro (by omega) (And.intro (And.intro (by omega) k2) (St.to_chk [] (by simp [hwk]))))
              · have hd' := eq_true (of_decide_eq_true hd)
                rw [hc, hd] at q2
                simp only [Bool.true_and, decide_eq_false_iff_not] at q2
                by_cases e1 : t.tm = u.tm
                · have e1' := eq_true e1
                  have e2' := eq_false (fun e2 => q2 ⟨e1, e2⟩)
                  simp [ht, hu, n1', n2', hc', hd', e1', e2']
                  repeat' (first | intro _ | with_reducible refine And.intro ?_ ?_ | exact chkI (by kernel_rfl) | exact backI (by kernel_rfl) | (refine callA (by first | rfl | (simp; done) | (simp; rfl)) (c_right' ..) ?_ <;> try simp [ht, hu, n1', n2', hc', hd', e1', e2']) | (refine callB (by first | rfl | (simp; done) | (simp; rfl)) (c_right' ..) ?_ <;> try simp [ht, hu, n1', n2', hc', hd', e1', e2']) | (refine callA (by first | rfl | (simp; done) | (simp; rfl)) (c_there' ..) ?_ <;> try simp [ht, hu, n1', n2', hc', hd', e1', e2']) | (refine callB (by first | rfl | (simp; done) | (simp; rfl)) (c_there' ..) ?_ <;> try simp [ht, hu, n1', n2', hc', hd', e1', e2']) | fail)
                  all_goals first | omega | (exfalso; omega) | exact Exists.intro (k + 1) (And.intro (by omega) (And.intro (And.intro (by omega) k2) (St.to_chk [] (by simp [hwk]))))
                · have e1' := eq_false e1
                  simp [ht, hu, n1', n2', hc', hd', e1']
                  repeat' (first | intro _ | with_reducible refine And.intro ?_ ?_ | exact chkI (by kernel_rfl) | exact backI (by kernel_rfl) | (refine callA (by first | rfl | (simp; done) | (simp; rfl)) (c_right' ..) ?_ <;> try simp [ht, hu, n1', n2', hc', hd', e1']) | (refine callB (by first | rfl | (simp; done) | (simp; rfl)) (c_right' ..) ?_ <;> try simp [ht, hu, n1', n2', hc', hd', e1']) | (refine callA (by first | rfl | (simp; done) | (simp; rfl)) (c_there' ..) ?_ <;> try simp [ht, hu, n1', n2', hc', hd', e1']) | (refine callB (by first | rfl | (simp; done) | (simp; rfl)) (c_there' ..) ?_ <;> try simp [ht, hu, n1', n2', hc', hd', e1']) | fail)
                  all_goals first | omega | (exfalso; omega) | exact Exists.intro (k + 1) (And.intro (by omega) (And.intro (And.intro (by omega) k2) (St.to_chk [] (by simp [hwk]))))
          · have n1' := eq_false n1
            rcases hc : isCm t with _ | _
            · have hc' := eq_false (of_decide_eq_false hc)
              simp [ht, hu, n1', hc']
              repeat' (first | intro _ | with_reducible refine And.intro ?_ ?_ | exact chkI (by kernel_rfl) | exact backI (by kernel_rfl) | (refine callA (by first | rfl | (simp; done) | (simp; rfl)) (c_right' ..) ?_ <;> try simp [ht, hu, n1', hc']) | (refine callB (by first | rfl | (simp; done) | (simp; rfl)) (c_right' ..) ?_ <;> try simp [ht, hu, n1', hc']) | (refine callA (by first | rfl | (simp; done) | (simp; rfl)) (c_there' ..) ?_ <;> try simp [ht, hu, n1', hc']) | (refine callB (by first | rfl | (simp; done) | (simp; rfl)) (c_there' ..) ?_ <;> try simp [ht, hu, n1', hc']) | fail)
              all_goals first | omega | (exfalso; omega) | exact Exists.intro (k + 1) (And.intro (by omega) (And.intro (And.intro (by omega) k2) (St.to_chk [] (by simp [hwk]))))
            · have hc' := eq_true (of_decide_eq_true hc)
              rcases hd : isCm u with _ | _
              · have hd' := eq_false (of_decide_eq_false hd)
                simp [ht, hu, n1', hc', hd']
                repeat' (first | intro _ | with_reducible refine And.intro ?_ ?_ | exact chkI (by kernel_rfl) | exact backI (by kernel_rfl) | (refine callA (by first | rfl | (simp; done) | (simp; rfl)) (c_right' ..) ?_ <;> try simp [ht, hu, n1', hc', hd']) | (refine callB (by first | rfl | (simp; done) | (simp; rfl)) (c_right' ..) ?_ <;> try simp [ht, hu, n1', hc', hd']) | (refine callA (by first | rfl | (simp; done) | (simp; rfl)) (c_there' ..) ?_ <;> try simp [ht, hu, n1', hc', hd']) | (refine callB (by first | rfl | (simp; done) | (simp; rfl)) (c_there' ..) ?_ <;> try simp [ht, hu, n1', hc', hd']) | fail)
                all_goals first | omega | (exfalso; omega) | exact Exists.intro (k + 1) (And.intro (by omega) (And.intro (And.intro (by omega) k2) (St.to_chk [] (by simp [hwk]))))
              · have hd' := eq_true (of_decide_eq_true hd)
                rw [hc, hd] at q2
                simp only [Bool.true_and, decide_eq_false_iff_not] at q2
                by_cases e1 : t.tm = u.tm
                · have e1' := eq_true e1
                  have e2' := eq_false (fun e2 => q2 ⟨e1, e2⟩)
                  simp [ht, hu, n1', hc', hd', e1', e2']
                  repeat' (first | intro _ | with_reducible refine And.intro ?_ ?_ | exact chkI (by kernel_rfl) | exact backI (by kernel_rfl) | (refine callA (by first | rfl | (simp; done) | (simp; rfl)) (c_right' ..) ?_ <;> try simp [ht, hu, n1', hc', hd', e1', e2']) | (refine callB (by first | rfl | (simp; done) | (simp; rfl)) (c_right' ..) ?_ <;> try simp [ht, hu, n1', hc', hd', e1', e2']) | (refine callA (by first | rfl | (simp; done) | (simp; rfl)) (c_there' ..) ?_ <;> try simp [ht, hu, n1', hc', hd', e1', e2']) | (refine callB (by first | rfl | (simp; done) | (simp; rfl)) (c_there' ..) ?_ <;> try simp [ht, hu, n1', hc', hd', e1', e2']) | fail)
                  all_goals first | omega | (exfalso; omega) | exact Exists.intro (k + 1) (And.intro (by omega) (And.intro (And.intro (by omega) k2) (St.to_chk [] (by simp [hwk]))))
                · have e1' := eq_false e1
                  simp [ht, hu, n1', hc', hd', e1']
                  repeat' (first | intro _ | with_reducible refine And.intro ?_ ?_ | exact chkI (by kernel_rfl) | exact backI (by kernel_rfl) | (refine callA (by first | rfl | (simp; done) | (simp; rfl)) (c_right' ..) ?_ <;> try simp [ht, hu, n1', hc', hd', e1']) | (refine callB (by first | rfl | (simp; done) | (simp; rfl)) (c_right' ..) ?_ <;> try simp [ht, hu, n1', hc', hd', e1']) | (refine callA (by first | rfl | (simp; done) | (simp; rfl)) (c_there' ..) ?_ <;> try simp [ht, hu, n1', hc', hd', e1']) | (refine callB (by first | rfl | (simp; done) | (simp; rfl)) (c_there' ..) ?_ <;> try simp [ht, hu, n1', hc', hd', e1']) | fail)
                  all_goals first | omega | (exfalso; omega) | exact Exists.intro (k + 1) (And.intro (by omega) (And.intro (And.intro (by omega) k2) (St.to_chk [] (by simp [hwk]))))
        · have htw : twiceS l = true := by rw [← j4, k2, hb]; simp
          rw [show cheI (thereR l) l = -1 by simp only [cheI, j2, htw]; rfl, show cheE (thereR l) l = 11 by simp only [cheE, j2, htw]; rfl]
          simp only [clash1, Bool.or_eq_true, Bool.and_eq_true, decide_eq_true_eq] at hb
          by_cases n1 : t.cl = u.cl
          · have n1' := eq_true n1
            by_cases n2 : t.nm = u.nm
            · have n2' := eq_true n2
              simp [ht, hu, n1', n2']
              repeat' (first | intro _ | with_reducible refine And.intro ?_ ?_ | exact chkI (by kernel_rfl) | exact backI (by kernel_rfl) | (refine callA (by first | rfl | (simp; done) | (simp; rfl)) (c_right' ..) ?_ <;> try simp [ht, hu, n1', n2']) | (refine callB (by first | rfl | (simp; done) | (simp; rfl)) (c_right' ..) ?_ <;> try simp [ht, hu, n1', n2']) | (refine callA (by first | rfl | (simp; done) | (simp; rfl)) (c_there' ..) ?_ <;> try simp [ht, hu, n1', n2']) | (refine callB (by first | rfl | (simp; done) | (simp; rfl)) (c_there' ..) ?_ <;> try simp [ht, hu, n1', n2']) | fail)
              all_goals first | omega | (exfalso; omega)
            · have n2' := eq_false n2
              obtain ⟨c1, c2, c3, c4⟩ := hb.resolve_left fun h => n2 h.2
              have hc' := eq_true (of_decide_eq_true c1)
              have hd' := eq_true (of_decide_eq_true c2)
              have e1' := eq_true c3
              have e2' := eq_true c4
              simp [ht, hu, n1', n2', hc', hd', e1', e2']
              repeat' (first | intro _ | with_reducible refine And.intro ?_ ?_ | exact chkI (by kernel_rfl) | exact backI (by kernel_rfl) | (refine callA (by first | rfl | (simp; done) | (simp; rfl)) (c_right' ..) ?_ <;> try simp [ht, hu, n1', n2', hc', hd', e1', e2']) | (refine callB (by first | rfl | (simp; done) | (simp; rfl)) (c_right' ..) ?_ <;> try simp [ht, hu, n1', n2', hc', hd', e1', e2']) | (refine callA (by first | rfl | (simp; done) | (simp; rfl)) (c_there' ..) ?_ <;> try simp [ht, hu, n1', n2', hc', hd', e1', e2']) | (refine callB (by first | rfl | (simp; done) | (simp; rfl)) (c_there' ..) ?_ <;> try simp [ht, hu, n1', n2', hc', hd', e1', e2']) | fail)
              all_goals first | omega | (exfalso; omega)
          · have n1' := eq_false n1
            obtain ⟨c1, c2, c3, c4⟩ := hb.resolve_left fun h => n1 h.1
            have hc' := eq_true (of_decide_eq_true c1)
            have hd' := eq_true (of_decide_eq_true c2)
            have e1' := eq_true c3
            have e2' := eq_true c4
            simp [ht, hu, n1', hc', hd', e1', e2']
            repeat' (first | intro _ | with_reducible refine And.intro ?_ ?_ | exact chkI (by kernel_rfl) | exact backI (by kernel_rfl) | (refine callA (by first | rfl | (simp; done) | (simp; rfl)) (c_right' ..) ?_ <;> try simp [ht, hu, n1', hc', hd', e1', e2']) | (refine callB (by first | rfl | (simp; done) | (simp; rfl)) (c_right' ..) ?_ <;> try simp [ht, hu, n1', hc', hd', e1', e2']) | (refine callA (by first | rfl | (simp; done) | (simp; rfl)) (c_there' ..) ?_ <;> try simp [ht, hu, n1', hc', hd', e1', e2']) | (refine callB (by first | rfl | (simp; done) | (simp; rfl)) (c_there' ..) ?_ <;> try simp [ht, hu, n1', hc', hd', e1', e2']) | fail)
            all_goals first | omega | (exfalso; omega)
      · rw [List.drop_eq_nil_of_le (by simp; omega), List.any_nil] at k2
        rw [k2, Bool.false_or] at j4
        simp [hk]
        exact Exists.intro (i + 1) (And.intro (by omega) (And.intro (And.intro (by omega) j4) (St.to_chk [] (by simp [hw]))))
    · rw [List.drop_eq_nil_of_le (by omega), twG] at j4
      have h2 : twiceS l = false := j4.symm
      simp [hi]
      refine aw_loopK (α := {i : Nat // i ≤ l.length ∧ firstW (thereR l) 0 l = firstW (thereR l) i (l.drop i)}) [0] (fun i => [(7, i64 i.1)]) (fun i => l.length - i.1) ⟨0, by simp⟩ (by simp) ?_
      rintro ⟨i, j3, j4⟩
      dsimp only
      by_cases hi : i < l.length
      · obtain ⟨t, ht⟩ := getL_some hi
        have hw := wrI hi (by omega)
        have hsm := hs t (List.mem_of_getElem? ht)
        have hrl := hsm.rl
        rw [dropL_at ht, firstW] at j4
        simp [hi]
        refine aw_loopK (α := {k : Nat // k ≤ t.rs.length ∧ wrongT (thereR l) t = (isCm t && (t.rs.drop k).any (badS (thereR l) t))}) [0, 7, 75, 76, 77, 78, 79, 80] (fun k => [(8, i64 k.1)]) (fun k => t.rs.length - k.1) ⟨0, by simp, rfl⟩ (by simp) ?_
        rintro ⟨k, k1, k2⟩
        dsimp only
        rcases hc : isCm t with _ | _
        · have hc' := eq_false (of_decide_eq_false hc)
          rw [hc, Bool.false_and] at k2
          rw [k2] at j4
          simp at j4
          simp [ht, hc']
          repeat' (first | intro _ | with_reducible refine And.intro ?_ ?_ | exact chkI (by kernel_rfl) | exact backI (by kernel_rfl) | (refine callA (by first | rfl | (simp; done) | (simp; rfl)) (c_right' ..) ?_ <;> try simp [ht, hc']) | (refine callB (by first | rfl | (simp; done) | (simp; rfl)) (c_right' ..) ?_ <;> try simp [ht, hc']) | (refine callA (by first | rfl | (simp; done) | (simp; rfl)) (c_there' ..) ?_ <;> try simp [ht, hc']) | (refine callB (by first | rfl | (simp; done) | (simp; rfl)) (c_there' ..) ?_ <;> try simp [ht, hc']) | fail)
          all_goals first | omega | exact Exists.intro (i + 1) (And.intro (by omega) (And.intro (And.intro (by omega) j4) (St.to_chk [] (by simp [hw]))))
        · have hc' := eq_true (of_decide_eq_true hc)
          by_cases hk : k < t.rs.length
          · obtain ⟨s, hs0⟩ := getL_some hk
            have hwk := wrI hk (by omega)
            rw [dropL_at hs0, List.any_cons] at k2
            rcases hb : badS (thereR l) t s with _ | _
            · obtain ⟨b1, b2, b3⟩ := badS_iff.1 hb
              have k3 : wrongT (thereR l) t = (isCm t && (t.rs.drop (k + 1)).any (badS (thereR l) t)) := by rw [k2, hb]; simp
              have b1' := eq_true b1
              have b2' := eq_true b2
              have b3' := eq_true b3
              simp [ht, hc', hs0]
              repeat' (first | intro _ | with_reducible refine And.intro ?_ ?_ | exact chkI (by kernel_rfl) | exact backI (by kernel_rfl) | (refine callA (by first | rfl | (simp; done) | (simp; rfl)) (c_right' ..) ?_ <;> try simp [ht, hs0, hc', b1', b2', b3']) | (refine callB (by first | rfl | (simp; done) | (simp; rfl)) (c_right' ..) ?_ <;> try simp [ht, hs0, hc', b1', b2', b3']) | (refine callA (by first | rfl | (simp; done) | (simp; rfl)) (c_there' ..) ?_ <;> try simp [ht, hs0, hc', b1', b2', b3']) | (refine callB (by first | rfl | (simp; done) | (simp; rfl)) (c_there' ..) ?_ <;> try simp [ht, hs0, hc', b1', b2', b3']) | fail)
              all_goals first | omega | (exfalso; omega) | exact Exists.intro (k + 1) (And.intro (by omega) (And.intro (And.intro (by omega) (by rw [k3, hc]; simp)) (St.to_chk [] (by simp [hwk]))))
            · have hwt : wrongT (thereR l) t = true := by rw [k2, hc, hb]; simp
              rw [hwt] at j4
              simp at j4
              rw [show cheI (thereR l) l = (i : Int) by simp only [cheI, j2, h2, j4]; rfl, show cheE (thereR l) l = 16 by simp only [cheE, j2, h2, j4]; rfl]
              have hnb : ¬ ((thereR l s.key t.tm t.ac).1.1 = s.tm ∧ (thereR l s.key t.tm t.ac).1.2 = s.ac ∧ (thereR l s.key t.tm t.ac).2 = s.val) := fun h => by
                rw [badS_iff.2 h] at hb; cases hb
              simp [ht, hc', hs0]
              by_cases b1 : (thereR l s.key t.tm t.ac).1.1 = s.tm
              · have b1' := eq_true b1
                by_cases b2 : (thereR l s.key t.tm t.ac).1.2 = s.ac
                · have b2' := eq_true b2
                  have b3' := eq_false (fun b3 => hnb ⟨b1, b2, b3⟩)
                  repeat' (first | intro _ | with_reducible refine And.intro ?_ ?_ | exact chkI (by kernel_rfl) | exact backI (by kernel_rfl) | (refine callA (by first | rfl | (simp; done) | (simp; rfl)) (c_right' ..) ?_ <;> try simp [ht, hs0, hc', b1', b2', b3']) | (refine callB (by first | rfl | (simp; done) | (simp; rfl)) (c_right' ..) ?_ <;> try simp [ht, hs0, hc', b1', b2', b3']) | (refine callA (by first | rfl | (simp; done) | (simp; rfl)) (c_there' ..) ?_ <;> try simp [ht, hs0, hc', b1', b2', b3']) | (refine callB (by first | rfl | (simp; done) | (simp; rfl)) (c_there' ..) ?_ <;> try simp [ht, hs0, hc', b1', b2', b3']) | fail)
                  all_goals first | omega | (exfalso; omega)
                · have b2' := eq_false b2
                  repeat' (first | intro _ | with_reducible refine And.intro ?_ ?_ | exact chkI (by kernel_rfl) | exact backI (by kernel_rfl) | (refine callA (by first | rfl | (simp; done) | (simp; rfl)) (c_right' ..) ?_ <;> try simp [ht, hs0, hc', b1', b2']) | (refine callB (by first | rfl | (simp; done) | (simp; rfl)) (c_right' ..) ?_ <;> try simp [ht, hs0, hc', b1', b2']) | (refine callA (by first | rfl | (simp; done) | (simp; rfl)) (c_there' ..) ?_ <;> try simp [ht, hs0, hc', b1', b2']) | (refine callB (by first | rfl | (simp; done) | (simp; rfl)) (c_there' ..) ?_ <;> try simp [ht, hs0, hc', b1', b2']) | fail)
                  all_goals first | omega | (exfalso; omega)
              · have b1' := eq_false b1
                repeat' (first | intro _ | with_reducible refine And.intro ?_ ?_ | exact chkI (by kernel_rfl) | exact backI (by kernel_rfl) | (refine callA (by first | rfl | (simp; done) | (simp; rfl)) (c_right' ..) ?_ <;> try simp [ht, hs0, hc', b1']) | (refine callB (by first | rfl | (simp; done) | (simp; rfl)) (c_right' ..) ?_ <;> try simp [ht, hs0, hc', b1']) | (refine callA (by first | rfl | (simp; done) | (simp; rfl)) (c_there' ..) ?_ <;> try simp [ht, hs0, hc', b1']) | (refine callB (by first | rfl | (simp; done) | (simp; rfl)) (c_there' ..) ?_ <;> try simp [ht, hs0, hc', b1']) | fail)
                all_goals first | omega | (exfalso; omega)
          · rw [List.drop_eq_nil_of_le (by omega), List.any_nil, Bool.and_false] at k2
            rw [k2] at j4
            simp at j4
            simp [ht, hk]
            exact Exists.intro (i + 1) (And.intro (by omega) (And.intro (And.intro (by omega) j4) (St.to_chk [] (by simp [hw]))))
      · rw [List.drop_eq_nil_of_le (by omega), firstW] at j4
        rw [show cheI (thereR l) l = -1 by simp only [cheI, j2, h2, j4]; rfl, show cheE (thereR l) l = 0 by simp only [cheE, j2, h2, j4]; rfl]
        simp [hi]
end Go.Proofs.Ytnldlkkcdgdkgaa.AX
