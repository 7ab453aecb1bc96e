/- The first one that read something else than was there: the program's Check. -/
import Derived.Test.YtnldlkkcdgdkgaaCh6
import Derived.Test.YtnldlkkcdgdkgaaCh7
import Derived.Test.YtnldlkkcdgdkgaaCh9
namespace Go.Proofs.Ytnldlkkcdgdkgaa.AX
open Go Go.RowKit
set_option linter.unusedSimpArgs false
set_option linter.unusedVariables false
set_option maxRecDepth 100000
set_option maxHeartbeats 4000000
abbrev Th := ByteArray → Int → Int → Acc
def badS (th : Th) (t : Trp) (s : Sn) : Bool := !decide (th s.key t.tm t.ac = ((s.tm, s.ac), s.val))
def wrongT (th : Th) (t : Trp) : Bool := isCm t && t.rs.any (badS th t)
def firstW (th : Th) : Nat → List Trp → Option Nat
  | _, [] => none
  | i, t :: r => if wrongT th t = true then some i else firstW th (i + 1) r
def cheI (th : Th) (l : List Trp) : Int := if l.all rightT = false then -1 else if twiceS l = true then -1 else match firstW th 0 l with
  | some i => (i : Int)
  | none => -1
def cheE (th : Th) (l : List Trp) : Int := if l.all rightT = false then 1 else if twiceS l = true then 11 else match firstW th 0 l with
  | some i => 16
  | none => 0
theorem badS_iff {th : Th} {t : Trp} {s : Sn} : badS th t s = false ↔ (th s.key t.tm t.ac).1.1 = s.tm ∧ (th s.key t.tm t.ac).1.2 = s.ac ∧ (th s.key t.tm t.ac).2 = s.val := by
  rw [badS, Bool.not_eq_false', decide_eq_true_eq]
  generalize th s.key t.tm t.ac = a
  obtain ⟨⟨p, q⟩, u⟩ := a
  simp [and_assoc]
theorem c_Check (l : List Trp) (hl : l.length ≤ 19 := by assumption) (hs : ∀ t ∈ l, t.Small := by assumption) : Pure Try.prog 12 [.sl (l.map Trp.cs)] (.tup [i64 (cheI (thereS l) l), i64 (cheE (thereS l) l)]) := by
  have hl2 : l.length ≤ 100 := by omega
  refine pureQ_of_aw dOk Try.func12 rfl rfl rfl rfl rfl ?_
  simp [Try.f12]
  refine aw_loopK (α := {i : Nat // i ≤ l.length ∧ l.all rightT = (l.drop i).all rightT}) [0, 6, 7, 9, 10, 11, 12, 13, 22, 23, 24, 25, 26, 27, 28, 29, 30, 31, 32, 33, 34, 35, 36, 37, 38, 39, 40, 41, 42, 43, 44, 45, 46, 47, 48, 49, 50, 51, 52, 53, 54, 55, 56, 57, 58, 59, 60, 61, 62, 63, 64] (fun i => [(14, i64 i.1)]) (fun i => l.length - i.1) ⟨0, by simp⟩ (by simp) ?_
  rintro ⟨i, j1, j2⟩
  dsimp only
  by_cases hi : i < l.length
  · obtain ⟨t, ht⟩ := getL_some hi
    have hw := wrI hi (by omega)
    have hsm := hs t (List.mem_of_getElem? ht)
    rw [dropL_at ht, List.all_cons] at j2
    rcases hr : rightT t with _ | _
    · have e : l.all rightT = false := by rw [j2, hr]; rfl
      rw [show cheI (thereS l) l = -1 from if_pos e, show cheE (thereS l) l = 1 from if_pos e]
      simp [ht]
      refine ⟨fun _ => ?_, fun h => by omega⟩
      repeat' (first | intro _ | with_reducible refine And.intro ?_ ?_ | exact chkI (by kernel_rfl) | exact backI (by kernel_rfl) | (refine callA (by first | rfl | (simp; done) | (simp; rfl)) (c_there ..) ?_ <;> try simp [ht, hr]) | (refine callB (by first | rfl | (simp; done) | (simp; rfl)) (c_there ..) ?_ <;> try simp [ht, hr]) | (refine callA (by first | rfl | (simp; done) | (simp; rfl)) (c_right ..) ?_ <;> try simp [ht, hr]) | (refine callB (by first | rfl | (simp; done) | (simp; rfl)) (c_right ..) ?_ <;> try simp [ht, hr]) | (refine callA (by first | rfl | (simp; done) | (simp; rfl)) (c_twice ..) ?_ <;> try simp [ht, hr]) | (refine callB (by first | rfl | (simp; done) | (simp; rfl)) (c_twice ..) ?_ <;> try simp [ht, hr]) | fail)
      all_goals first | omega
    · rw [hr, Bool.true_and] at j2
      simp [ht, -List.all_eq_true]
      refine ⟨fun _ => ?_, fun h => by omega⟩
      repeat' (first | intro _ | with_reducible refine And.intro ?_ ?_ | exact chkI (by kernel_rfl) | exact backI (by kernel_rfl) | (refine callA (by first | rfl | (simp; done) | (simp; rfl)) (c_there ..) ?_ <;> try simp [ht, hr, -List.all_eq_true]) | (refine callB (by first | rfl | (simp; done) | (simp; rfl)) (c_there ..) ?_ <;> try simp [ht, hr, -List.all_eq_true]) | (refine callA (by first | rfl | (simp; done) | (simp; rfl)) (c_right ..) ?_ <;> try simp [ht, hr, -List.all_eq_true]) | (refine callB (by first | rfl | (simp; done) | (simp; rfl)) (c_right ..) ?_ <;> try simp [ht, hr, -List.all_eq_true]) | (refine callA (by first | rfl | (simp; done) | (simp; rfl)) (c_twice ..) ?_ <;> try simp [ht, hr, -List.all_eq_true]) | (refine callB (by first | rfl | (simp; done) | (simp; rfl)) (c_twice ..) ?_ <;> try simp [ht, hr, -List.all_eq_true]) | fail)
      all_goals first | omega | exact Exists.intro (i + 1) (And.intro (by omega) (And.intro (And.intro (by omega) j2) (St.to_chk [] (by simp [hw]))))
  · rw [List.drop_eq_nil_of_le (by omega), List.all_nil] at j2
    rcases h2 : twiceS l with _ | _
    · simp [hi]
      repeat' (first | intro _ | with_reducible refine And.intro ?_ ?_ | exact chkI (by kernel_rfl) | exact backI (by kernel_rfl) | (refine callA (by first | rfl | (simp; done) | (simp; rfl)) (c_there ..) ?_ <;> try simp [h2]) | (refine callB (by first | rfl | (simp; done) | (simp; rfl)) (c_there ..) ?_ <;> try simp [h2]) | (refine callA (by first | rfl | (simp; done) | (simp; rfl)) (c_right ..) ?_ <;> try simp [h2]) | (refine callB (by first | rfl | (simp; done) | (simp; rfl)) (c_right ..) ?_ <;> try simp [h2]) | (refine callA (by first | rfl | (simp; done) | (simp; rfl)) (c_twice ..) ?_ <;> try simp [h2]) | (refine callB (by first | rfl | (simp; done) | (simp; rfl)) (c_twice ..) ?_ <;> try simp [h2]) | fail)
      refine aw_loopK (α := {i : Nat // i ≤ l.length ∧ firstW (thereS l) 0 l = firstW (thereS l) i (l.drop i)}) [0, 24, 25] (fun i => [(26, i64 i.1)]) (fun i => l.length - i.1) ⟨0, by simp⟩ (by simp) ?_
      rintro ⟨i, j3, j4⟩
      dsimp only
      by_cases hi : i < l.length
      · obtain ⟨t, ht⟩ := getL_some hi
        have hw := wrI hi (by omega)
        have hsm := hs t (List.mem_of_getElem? ht)
        have hrl := hsm.rl
        rw [dropL_at ht, firstW] at j4
        simp [ht]
        refine ⟨fun _ => ?_, fun h => by omega⟩
        refine aw_loopKM (α := {k : Nat // k ≤ t.rs.length ∧ wrongT (thereS l) t = (isCm t && (t.rs.drop k).any (badS (thereS l) t))}) [0, 6, 7, 24, 25, 26, 27, 28, 29, 30, 31, 32, 33, 64] (fun k => [(34, i64 k.1)]) (fun _ => [(0, .box false 38 t.cs)]) 1 (fun k => t.rs.length - k.1) ⟨0, by simp, rfl⟩ (St.to_chk [] (by simp)) ?_
        rintro ⟨k, k1, k2⟩
        dsimp only
        by_cases hk : k < t.rs.length
        · obtain ⟨s, hs0⟩ := getL_some hk
          have hwk := wrI hk (by omega)
          rw [dropL_at hs0, List.any_cons] at k2
          rcases hc : isCm t with _ | _
          · have hc' := eq_false (of_decide_eq_false hc)
            have k3 : wrongT (thereS l) t = (isCm t && (t.rs.drop (k + 1)).any (badS (thereS l) t)) := by rw [k2, hc]; simp
            simp [hs0]
            refine ⟨fun _ => ?_, fun h => by omega⟩
            repeat' (first | intro _ | with_reducible refine And.intro ?_ ?_ | exact chkI (by kernel_rfl) | exact backI (by kernel_rfl) | (refine callA (by first | rfl | (simp; done) | (simp; rfl)) (c_there ..) ?_ <;> try simp [hs0, hc']) | (refine callB (by first | rfl | (simp; done) | (simp; rfl)) (c_there ..) ?_ <;> try simp [hs0, hc']) | (refine callA (by first | rfl | (simp; done) | (simp; rfl)) (c_right ..) ?_ <;> try simp [hs0, hc']) | (refine callB (by first | rfl | (simp; done) | (simp; rfl)) (c_right ..) ?_ <;> try simp [hs0, hc']) | (refine callA (by first | rfl | (simp; done) | (simp; rfl)) (c_twice ..) ?_ <;> try simp [hs0, hc']) | (refine callB (by first | rfl | (simp; done) | (simp; rfl)) (c_twice ..) ?_ <;> try simp [hs0, hc']) | fail)
            all_goals first | omega | exact Exists.intro (k + 1) (And.intro (by omega) (And.intro (And.intro (by omega) (by rw [k3, hc]; simp)) (St.to_chk [] (by simp [hwk]))))
          · have hc' := eq_true (of_decide_eq_true hc)
            rcases hb : badS (thereS l) t s with _ | _
            · obtain ⟨b1, b2, b3⟩ := badS_iff.1 hb
              have k3 : wrongT (thereS l) t = (isCm t && (t.rs.drop (k + 1)).any (badS (thereS l) t)) := by rw [k2, hb]; simp
              have b1' := eq_true b1
              have b2' := eq_true b2
              have b3' := eq_true b3
              simp [hs0]
              refine ⟨fun _ => ?_, fun h => by omega⟩
              repeat' (first | intro _ | with_reducible refine And.intro ?_ ?_ | exact chkI (by kernel_rfl) | exact backI (by kernel_rfl) | (refine callA (by first | rfl | (simp; done) | (simp; rfl)) (c_there ..) ?_ <;> try simp [hs0, hc', b1', b2', b3']) | (refine callB (by first | rfl | (simp; done) | (simp; rfl)) (c_there ..) ?_ <;> try simp [hs0, hc', b1', b2', b3']) | (refine callA (by first | rfl | (simp; done) | (simp; rfl)) (c_right ..) ?_ <;> try simp [hs0, hc', b1', b2', b3']) | (refine callB (by first | rfl | (simp; done) | (simp; rfl)) (c_right ..) ?_ <;> try simp [hs0, hc', b1', b2', b3']) | (refine callA (by first | rfl | (simp; done) | (simp; rfl)) (c_twice ..) ?_ <;> try simp [hs0, hc', b1', b2', b3']) | (refine callB (by first | rfl | (simp; done) | (simp; rfl)) (c_twice ..) ?_ <;> try simp [hs0, hc', b1', b2', b3']) | fail)
              all_goals first | omega | exact Exists.intro (k + 1) (And.intro (by omega) (And.intro (And.intro (by omega) (by rw [k3, hc]; simp)) (St.to_chk [] (by simp [hwk]))))
            · have hwt : wrongT (thereS l) t = true := by rw [k2, hc, hb]; simp
              rw [hwt] at j4
              simp at j4
              rw [show cheI (thereS l) l = (i : Int) by simp only [cheI, j2, h2, j4]; rfl, show cheE (thereS l) l = 16 by simp only [cheE, j2, h2, j4]; rfl]
              have hnb : ¬ ((thereS l s.key t.tm t.ac).1.1 = s.tm ∧ (thereS l s.key t.tm t.ac).1.2 = s.ac ∧ (thereS l s.key t.tm t.ac).2 = s.val) := fun h => by
                rw [badS_iff.2 h] at hb; cases hb
              simp [hs0]
              refine ⟨fun _ => ?_, fun h => by omega⟩
              by_cases b1 : (thereS l s.key t.tm t.ac).1.1 = s.tm
              · have b1' := eq_true b1
                by_cases b2 : (thereS l s.key t.tm t.ac).1.2 = s.ac
                · have b2' := eq_true b2
                  have b3' := eq_false (fun b3 => hnb ⟨b1, b2, b3⟩)
                  repeat' (first | intro _ | with_reducible refine And.intro ?_ ?_ | exact chkI (by kernel_rfl) | exact backI (by kernel_rfl) | (refine callA (by first | rfl | (simp; done) | (simp; rfl)) (c_there ..) ?_ <;> try simp [hs0, hc', b1', b2', b3']) | (refine callB (by first | rfl | (simp; done) | (simp; rfl)) (c_there ..) ?_ <;> try simp [hs0, hc', b1', b2', b3']) | (refine callA (by first | rfl | (simp; done) | (simp; rfl)) (c_right ..) ?_ <;> try simp [hs0, hc', b1', b2', b3']) | (refine callB (by first | rfl | (simp; done) | (simp; rfl)) (c_right ..) ?_ <;> try simp [hs0, hc', b1', b2', b3']) | (refine callA (by first | rfl | (simp; done) | (simp; rfl)) (c_twice ..) ?_ <;> try simp [hs0, hc', b1', b2', b3']) | (refine callB (by first | rfl | (simp; done) | (simp; rfl)) (c_twice ..) ?_ <;> try simp [hs0, hc', b1', b2', b3']) | fail)
                  all_goals first | omega
                · have b2' := eq_false b2
                  repeat' (first | intro _ | with_reducible refine And.intro ?_ ?_ | exact chkI (by kernel_rfl) | exact backI (by kernel_rfl) | (refine callA (by first | rfl | (simp; done) | (simp; rfl)) (c_there ..) ?_ <;> try simp [hs0, hc', b1', b2']) | (refine callB (by first | rfl | (simp; done) | (simp; rfl)) (c_there ..) ?_ <;> try simp [hs0, hc', b1', b2']) | (refine callA (by first | rfl | (simp; done) | (simp; rfl)) (c_right ..) ?_ <;> try simp [hs0, hc', b1', b2']) | (refine callB (by first | rfl | (simp; done) | (simp; rfl)) (c_right ..) ?_ <;> try simp [hs0, hc', b1', b2']) | (refine callA (by first | rfl | (simp; done) | (simp; rfl)) (c_twice ..) ?_ <;> try simp [hs0, hc', b1', b2']) | (refine callB (by first | rfl | (simp; done) | (simp; rfl)) (c_twice ..) ?_ <;> try simp [hs0, hc', b1', b2']) | fail)
                  all_goals first | omega
              · have b1' := eq_false b1
                repeat' (first | intro _ | with_reducible refine And.intro ?_ ?_ | exact chkI (by kernel_rfl) | exact backI (by kernel_rfl) | (refine callA (by first | rfl | (simp; done) | (simp; rfl)) (c_there ..) ?_ <;> try simp [hs0, hc', b1']) | (refine callB (by first | rfl | (simp; done) | (simp; rfl)) (c_there ..) ?_ <;> try simp [hs0, hc', b1']) | (refine callA (by first | rfl | (simp; done) | (simp; rfl)) (c_right ..) ?_ <;> try simp [hs0, hc', b1']) | (refine callB (by first | rfl | (simp; done) | (simp; rfl)) (c_right ..) ?_ <;> try simp [hs0, hc', b1']) | (refine callA (by first | rfl | (simp; done) | (simp; rfl)) (c_twice ..) ?_ <;> try simp [hs0, hc', b1']) | (refine callB (by first | rfl | (simp; done) | (simp; rfl)) (c_twice ..) ?_ <;> try simp [hs0, hc', b1']) | fail)
                all_goals first | omega
        · rw [List.drop_eq_nil_of_le (by omega), List.any_nil, Bool.and_false] at k2
          rw [k2] at j4
          simp at j4
          simp [hk]
          exact Exists.intro (i + 1) (And.intro (by omega) (And.intro (And.intro (by omega) j4) (St.to_chk [] (by simp [hw]))))
      · rw [List.drop_eq_nil_of_le (by omega), firstW] at j4
        rw [show cheI (thereS l) l = -1 by simp only [cheI, j2, h2, j4]; rfl, show cheE (thereS l) l = 0 by simp only [cheE, j2, h2, j4]; rfl]
        simp [hi]
    · rw [show cheI (thereS l) l = -1 by simp only [cheI, j2, h2]; rfl, show cheE (thereS l) l = 11 by simp only [cheE, j2, h2]; rfl]
      simp [hi]
      repeat' (first | intro _ | with_reducible refine And.intro ?_ ?_ | exact chkI (by kernel_rfl) | exact backI (by kernel_rfl) | (refine callA (by first | rfl | (simp; done) | (simp; rfl)) (c_there ..) ?_ <;> try simp [h2]) | (refine callB (by first | rfl | (simp; done) | (simp; rfl)) (c_there ..) ?_ <;> try simp [h2]) | (refine callA (by first | rfl | (simp; done) | (simp; rfl)) (c_right ..) ?_ <;> try simp [h2]) | (refine callB (by first | rfl | (simp; done) | (simp; rfl)) (c_right ..) ?_ <;> try simp [h2]) | (refine callA (by first | rfl | (simp; done) | (simp; rfl)) (c_twice ..) ?_ <;> try simp [h2]) | (refine callB (by first | rfl | (simp; done) | (simp; rfl)) (c_twice ..) ?_ <;> try simp [h2]) | fail)
      all_goals first | omega
end Go.Proofs.Ytnldlkkcdgdkgaa.AX
