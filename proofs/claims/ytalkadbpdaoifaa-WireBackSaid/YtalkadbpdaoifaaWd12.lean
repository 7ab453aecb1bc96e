/- The document's reading of commands. -/
import Derived.Test.YtalkadbpdaoifaaWd4
import Derived.Test.YtalkadbpdaoifaaWd9
namespace Go.Proofs.Ytalkadbpdaoifaa.AX
open Go Go.RowKit
set_option linter.unusedSimpArgs false
set_option linter.unusedVariables false
set_option maxRecDepth 100000
set_option maxHeartbeats 4000000
def Rst.rdR (s : Rst) : Rd := ⟨s.textV, s.text.numR, s.text.num.numR⟩
def Rst.rdsR : Nat → Rst → List Rd
  | 0, _ => []
  | n + 1, s => if s.e = 0 then s.rdR :: Rst.rdsR n s.rd else []
theorem rdsR_succ (n : Nat) (s : Rst) : Rst.rdsR (n + 1) s = (if (Rst.rds n s).e = 0 then Rst.rdsR n s ++ [(Rst.rds n s).rdR] else Rst.rdsR n s) := by
  induction n generalizing s with
  | zero => rfl
  | succ n ih =>
    by_cases h : s.e = 0
    · have e2 : Rst.rds (n + 1) s = Rst.rds n s.rd := if_pos h
      have e3 : Rst.rdsR (n + 1 + 1) s = s.rdR :: Rst.rdsR (n + 1) s.rd := if_pos h
      have e4 : Rst.rdsR (n + 1) s = s.rdR :: Rst.rdsR n s.rd := if_pos h
      rw [e2, e3, e4, ih s.rd]
      split <;> simp
    · have e2 : Rst.rds (n + 1) s = s := if_neg h
      have e3 : Rst.rdsR (n + 1 + 1) s = [] := if_neg h
      have e4 : Rst.rdsR (n + 1) s = [] := if_neg h
      rw [e2, e3, e4]
      simp [h]
theorem rdsR_len : ∀ (n : Nat) (s : Rst), (Rst.rdsR n s).length ≤ n
  | 0, s => by simp [Rst.rdsR]
  | n + 1, s => by
    have := rdsR_len n s.rd
    unfold Rst.rdsR
    split <;> simp <;> omega
def Rst.rdsRL (s : Rst) : List Rd := Rst.rdsR s.fewV.toNat s.few
def Rst.cmdR (s : Rst) : Cmd := ⟨s.numR, (Rst.nums 1 s).numR, (Rst.nums 2 s).numR, (Rst.nums 3 s).numR, (Rst.nums 4 s).numR, (Rst.nums 5 s).numR, (Rst.nums 6 s).rdsRL, (Rst.nums 6 s).rdsS.wrsL, (Rst.nums 6 s).rdsS.wrsS.truthV⟩
theorem rds_end (n : Nat) (s : Rst) {i : Nat} (hi : i ≤ n) (h : (Rst.rds i s).e ≠ 0) : Rst.rds n s = Rst.rds i s ∧ Rst.rdsR n s = Rst.rdsR i s := by
  induction n with
  | zero => obtain rfl : i = 0 := by omega
            exact ⟨rfl, rfl⟩
  | succ n ih =>
    by_cases hj : i = n + 1
    · subst hj; exact ⟨rfl, rfl⟩
    · obtain ⟨e1, e2⟩ := ih (by omega)
      have a1 := (rds_succ n s).1
      have a2 := rdsR_succ n s
      rw [e1, if_neg h] at a1 a2
      exact ⟨a1, by rw [a2, e2]⟩
theorem wrs_end (n : Nat) (s : Rst) {i : Nat} (hi : i ≤ n) (h : (Rst.wrs i s).e ≠ 0) : Rst.wrs n s = Rst.wrs i s ∧ Rst.wrsV n s = Rst.wrsV i s := by
  induction n with
  | zero => obtain rfl : i = 0 := by omega
            exact ⟨rfl, rfl⟩
  | succ n ih =>
    by_cases hj : i = n + 1
    · subst hj; exact ⟨rfl, rfl⟩
    · obtain ⟨e1, e2⟩ := ih (by omega)
      obtain ⟨a1, a2⟩ := wrs_succ n s
      rw [e1, if_neg h] at a1 a2
      exact ⟨a1, by rw [a2, e2]⟩
theorem truth_t {s : Rst} (h : (1 : Int) < (s.oneV.toNat : Int)) : s.truth = s.one.fail 4 := if_pos (by omega)
theorem truth_f {s : Rst} (h : (s.oneV.toNat : Int) ≤ 1) : s.truth = s.one := if_neg (by omega)
theorem c_pcmd (b : List UInt8) (e : Int) : Pure Try.prog 60 [.agg [.sl (encB b), i64 e]] (.tup [.agg [.sl (encB (Rst.cmd ⟨b, e⟩).b), i64 (Rst.cmd ⟨b, e⟩).e], .agg (Rst.cmdR ⟨b, e⟩).cs]) := by
  have h6 : Rst.num (Rst.num (Rst.num (Rst.num (Rst.num (Rst.num ⟨b, e⟩))))) = Rst.nums 6 ⟨b, e⟩ := rfl
  have hf := fewV_le (Rst.nums 6 ⟨b, e⟩)
  obtain ⟨n, hn⟩ : ∃ n : Nat, (Rst.nums 6 ⟨b, e⟩).fewV = n := ⟨(Rst.nums 6 ⟨b, e⟩).fewV.toNat, by omega⟩
  have hf2 := fewV_le (Rst.nums 6 ⟨b, e⟩).rdsS
  obtain ⟨m, hm⟩ : ∃ m : Nat, (Rst.nums 6 ⟨b, e⟩).rdsS.fewV = m := ⟨(Rst.nums 6 ⟨b, e⟩).rdsS.fewV.toNat, by omega⟩
  have q1 : (Rst.nums 6 ⟨b, e⟩).rdsS = Rst.rds n (Rst.nums 6 ⟨b, e⟩).few := by unfold Rst.rdsS; rw [hn]; rfl
  have q2 : (Rst.nums 6 ⟨b, e⟩).rdsRL = Rst.rdsR n (Rst.nums 6 ⟨b, e⟩).few := by unfold Rst.rdsRL; rw [hn]; rfl
  have q3 : (Rst.nums 6 ⟨b, e⟩).rdsS.wrsS = Rst.wrs m (Rst.nums 6 ⟨b, e⟩).rdsS.few := by unfold Rst.wrsS; rw [hm]; rfl
  have q4 : (Rst.nums 6 ⟨b, e⟩).rdsS.wrsL = Rst.wrsV m (Rst.nums 6 ⟨b, e⟩).rdsS.few := by unfold Rst.wrsL; rw [hm]; rfl
  have c1 : Rst.cmd ⟨b, e⟩ = (Rst.wrs m (Rst.nums 6 ⟨b, e⟩).rdsS.few).truth := by unfold Rst.cmd; rw [q3]
  have c2 : Rst.cmdR ⟨b, e⟩ = ⟨Rst.numR ⟨b, e⟩, (Rst.nums 1 ⟨b, e⟩).numR, (Rst.nums 2 ⟨b, e⟩).numR, (Rst.nums 3 ⟨b, e⟩).numR, (Rst.nums 4 ⟨b, e⟩).numR, (Rst.nums 5 ⟨b, e⟩).numR, Rst.rdsR n (Rst.nums 6 ⟨b, e⟩).few, Rst.wrsV m (Rst.nums 6 ⟨b, e⟩).rdsS.few, (Rst.wrs m (Rst.nums 6 ⟨b, e⟩).rdsS.few).truthV⟩ := by unfold Rst.cmdR; rw [q2, q3, q4]
  rw [c1, c2, q1]
  clear c1 c2 q2 q3 q4
  simp only [Rst.nums]
  refine pureQ_of_aw dOk Try.func60 rfl rfl rfl rfl rfl ?_
  simp [Try.f60, -encB]
  repeat' (first | intro _ | with_reducible refine And.intro ?_ ?_ | exact chkI (by kernel_rfl) | exact backI (by kernel_rfl) | (refine callA (by first | rfl | (simp; done) | (simp; rfl)) (c_pfail ..) ?_ <;> try simp [-encB]) | (refine callB (by first | rfl | (simp; done) | (simp; rfl)) (c_pfail ..) ?_ <;> try simp [-encB]) | (refine callA (by first | rfl | (simp; done) | (simp; rfl)) (c_pone ..) ?_ <;> try simp [-encB]) | (refine callB (by first | rfl | (simp; done) | (simp; rfl)) (c_pone ..) ?_ <;> try simp [-encB]) | (refine callA (by first | rfl | (simp; done) | (simp; rfl)) (c_pnum ..) ?_ <;> try simp [-encB]) | (refine callB (by first | rfl | (simp; done) | (simp; rfl)) (c_pnum ..) ?_ <;> try simp [-encB]) | (refine callA (by first | rfl | (simp; done) | (simp; rfl)) (c_pfew ..) ?_ <;> try simp [-encB]) | (refine callB (by first | rfl | (simp; done) | (simp; rfl)) (c_pfew ..) ?_ <;> try simp [-encB]) | (refine callA (by first | rfl | (simp; done) | (simp; rfl)) (c_ptext ..) ?_ <;> try simp [-encB]) | (refine callB (by first | rfl | (simp; done) | (simp; rfl)) (c_ptext ..) ?_ <;> try simp [-encB]) | fail)
  simp only [h6]
  generalize Rst.nums 6 ⟨b, e⟩ = s6 at *
  generalize Rst.numR ⟨b, e⟩ = a1
  generalize Rst.numR _ = a2
  generalize Rst.numR _ = a3
  generalize Rst.numR _ = a4
  generalize Rst.numR _ = a5
  generalize Rst.numR _ = a6
  rw [hn]
  refine aw_loopKM (α := {i : Nat // i ≤ n}) [1, 2, 3, 4, 5, 8, 9, 93, 94, 95, 96, 97, 98, 99, 100, 101, 102, 103, 104, 105, 106, 107, 108, 109, 110, 111, 112, 113, 114, 115, 116, 117, 118, 119, 120, 121, 122, 123, 124, 125, 126, 127, 128, 129, 130, 131, 132, 133, 134, 135, 136, 137, 138, 139, 140] (fun i => [(6, i64 i.1)]) (fun i => [(0, .box false 105 [.sl (encB (Rst.rds i.1 s6.few).b), i64 (Rst.rds i.1 s6.few).e]), (1, .box false 105 [.nl, i64 0]), (2, .box false 33 [i64 0, i64 0, i64 0, i64 0, i64 0, i64 0, .nl, .nl, .bool false]), (3, .box false 33 [i64 a1, i64 a2, i64 a3, i64 a4, i64 a5, i64 a6, .rf 4, .nl, .bool false]), (4, .row false 74 3 ((Rst.rdsR i.1 s6.few).map Rd.cs))]) 5 (fun i => n - i.1) ⟨0, by simp⟩ ((St.to_ownB 3 6 74 3 (T' := 33) (cs := [i64 a1, i64 a2, i64 a3, i64 a4, i64 a5, i64 a6, .nl, .nl, .bool false]) (by simp) rfl (by simp)).trans (St.to_chk [] (by simp [Rst.rds, Rst.rdsR, -encB]))) ?_
  rintro ⟨i, j1⟩
  dsimp only
  have hlen := rdsR_len i s6.few
  have e1 := (rds_succ i s6.few).1
  have e2 := rdsR_succ i s6.few
  by_cases hi : i < n
  · have hw := wrI hi (by omega)
    by_cases he : (Rst.rds i s6.few).e = 0
    · rw [if_pos he] at e1 e2
      simp [hi, he, -encB]
      have hs0 : (⟨(Rst.rds i s6.few).b, 0⟩ : Rst) = Rst.rds i s6.few := by rw [← he]
      repeat' (first | intro _ | with_reducible refine And.intro ?_ ?_ | exact chkI (by kernel_rfl) | exact backI (by kernel_rfl) | (refine callA (by first | rfl | (simp; done) | (simp; rfl)) (c_pfail ..) ?_ <;> try simp [hi, he, -encB]) | (refine callB (by first | rfl | (simp; done) | (simp; rfl)) (c_pfail ..) ?_ <;> try simp [hi, he, -encB]) | (refine callA (by first | rfl | (simp; done) | (simp; rfl)) (c_pone ..) ?_ <;> try simp [hi, he, -encB]) | (refine callB (by first | rfl | (simp; done) | (simp; rfl)) (c_pone ..) ?_ <;> try simp [hi, he, -encB]) | (refine callA (by first | rfl | (simp; done) | (simp; rfl)) (c_pnum ..) ?_ <;> try simp [hi, he, -encB]) | (refine callB (by first | rfl | (simp; done) | (simp; rfl)) (c_pnum ..) ?_ <;> try simp [hi, he, -encB]) | (refine callA (by first | rfl | (simp; done) | (simp; rfl)) (c_pfew ..) ?_ <;> try simp [hi, he, -encB]) | (refine callB (by first | rfl | (simp; done) | (simp; rfl)) (c_pfew ..) ?_ <;> try simp [hi, he, -encB]) | (refine callA (by first | rfl | (simp; done) | (simp; rfl)) (c_ptext ..) ?_ <;> try simp [hi, he, -encB]) | (refine callB (by first | rfl | (simp; done) | (simp; rfl)) (c_ptext ..) ?_ <;> try simp [hi, he, -encB]) | fail)
      all_goals first | omega | exact rds_one (by assumption) | (refine Exists.intro (i + 1) (And.intro (by omega) (And.intro (by omega) (St.to_chk [(4, 7)] ?_))); rw [e1, e2]; simp [hw, hs0, Rst.rd, Rst.rdR, -encB]; done) | trace_state
    · have he' := eq_false he
      obtain ⟨E1, E2⟩ := rds_end n s6.few j1 he
      have hm' : (Rst.rds n s6.few).fewV = m := by rw [← q1]; exact hm
      simp [hi, he', -encB]
      simp only [← E1, ← E2]
      clear e1 e2 hlen
      repeat' (first | intro _ | with_reducible refine And.intro ?_ ?_ | exact chkI (by kernel_rfl) | exact backI (by kernel_rfl) | (refine callA (by first | rfl | (simp; done) | (simp; rfl)) (c_pfail ..) ?_ <;> try simp [hm', -encB]) | (refine callB (by first | rfl | (simp; done) | (simp; rfl)) (c_pfail ..) ?_ <;> try simp [hm', -encB]) | (refine callA (by first | rfl | (simp; done) | (simp; rfl)) (c_pone ..) ?_ <;> try simp [hm', -encB]) | (refine callB (by first | rfl | (simp; done) | (simp; rfl)) (c_pone ..) ?_ <;> try simp [hm', -encB]) | (refine callA (by first | rfl | (simp; done) | (simp; rfl)) (c_pnum ..) ?_ <;> try simp [hm', -encB]) | (refine callB (by first | rfl | (simp; done) | (simp; rfl)) (c_pnum ..) ?_ <;> try simp [hm', -encB]) | (refine callA (by first | rfl | (simp; done) | (simp; rfl)) (c_pfew ..) ?_ <;> try simp [hm', -encB]) | (refine callB (by first | rfl | (simp; done) | (simp; rfl)) (c_pfew ..) ?_ <;> try simp [hm', -encB]) | (refine callA (by first | rfl | (simp; done) | (simp; rfl)) (c_ptext ..) ?_ <;> try simp [hm', -encB]) | (refine callB (by first | rfl | (simp; done) | (simp; rfl)) (c_ptext ..) ?_ <;> try simp [hm', -encB]) | fail)
      refine aw_loopKM (α := {k : Nat // k ≤ m}) [1, 2, 3, 4, 5, 127, 128, 129, 130, 131, 132, 133, 134, 135, 136, 137, 138, 139, 140] (fun k => [(8, i64 k.1)]) (fun k => [(0, .box false 105 [.sl (encB (Rst.wrs k.1 (Rst.rds n s6.few).few).b), i64 (Rst.wrs k.1 (Rst.rds n s6.few).few).e]), (1, .box false 105 [.nl, i64 0]), (2, .box false 33 [i64 0, i64 0, i64 0, i64 0, i64 0, i64 0, .nl, .nl, .bool false]), (3, .box false 33 [i64 a1, i64 a2, i64 a3, i64 a4, i64 a5, i64 a6, .sl ((Rst.rdsR n s6.few).map Rd.cs), .rf 5, .bool false]), (5, .row false 76 2 ((Rst.wrsV k.1 (Rst.rds n s6.few).few).map Wr.cs))]) 6 (fun k => m - k.1) ⟨0, by simp⟩ (((St.to_fz 4).trans (St.to_tell 3 [i64 a1, i64 a2, i64 a3, i64 a4, i64 a5, i64 a6, .sl ((Rst.rdsR n s6.few).map Rd.cs), .nl, .bool false] (T := 33) (cs := [i64 a1, i64 a2, i64 a3, i64 a4, i64 a5, i64 a6, .rf 4, .nl, .bool false]) (by simp) (by simp))).trans ((St.to_ownB 3 7 76 2 (T' := 33) (cs := [i64 a1, i64 a2, i64 a3, i64 a4, i64 a5, i64 a6, .sl ((Rst.rdsR n s6.few).map Rd.cs), .nl, .bool false]) (by simp) rfl (by simp)).trans (St.to_chk [] (by simp [Rst.wrs, Rst.wrsV, -encB])))) ?_
      rintro ⟨k, j2⟩
      dsimp only
      have hlen2 := wrsV_len k (Rst.rds n s6.few).few
      obtain ⟨f1, f2⟩ := wrs_succ k (Rst.rds n s6.few).few
      by_cases hk : k < m
      · have hw2 := wrI hk (by omega)
        by_cases he2 : (Rst.wrs k (Rst.rds n s6.few).few).e = 0
        · rw [if_pos he2] at f1 f2
          have hs2 : (⟨(Rst.wrs k (Rst.rds n s6.few).few).b, 0⟩ : Rst) = Rst.wrs k (Rst.rds n s6.few).few := by rw [← he2]
          simp [hk, he2, -encB]
          repeat' (first | intro _ | with_reducible refine And.intro ?_ ?_ | exact chkI (by kernel_rfl) | exact backI (by kernel_rfl) | (refine callA (by first | rfl | (simp; done) | (simp; rfl)) (c_pfail ..) ?_ <;> try simp [hk, he2, -encB]) | (refine callB (by first | rfl | (simp; done) | (simp; rfl)) (c_pfail ..) ?_ <;> try simp [hk, he2, -encB]) | (refine callA (by first | rfl | (simp; done) | (simp; rfl)) (c_pone ..) ?_ <;> try simp [hk, he2, -encB]) | (refine callB (by first | rfl | (simp; done) | (simp; rfl)) (c_pone ..) ?_ <;> try simp [hk, he2, -encB]) | (refine callA (by first | rfl | (simp; done) | (simp; rfl)) (c_pnum ..) ?_ <;> try simp [hk, he2, -encB]) | (refine callB (by first | rfl | (simp; done) | (simp; rfl)) (c_pnum ..) ?_ <;> try simp [hk, he2, -encB]) | (refine callA (by first | rfl | (simp; done) | (simp; rfl)) (c_pfew ..) ?_ <;> try simp [hk, he2, -encB]) | (refine callB (by first | rfl | (simp; done) | (simp; rfl)) (c_pfew ..) ?_ <;> try simp [hk, he2, -encB]) | (refine callA (by first | rfl | (simp; done) | (simp; rfl)) (c_ptext ..) ?_ <;> try simp [hk, he2, -encB]) | (refine callB (by first | rfl | (simp; done) | (simp; rfl)) (c_ptext ..) ?_ <;> try simp [hk, he2, -encB]) | fail)
          all_goals first | omega | exact wrs_one (by assumption) | (refine Exists.intro (k + 1) (And.intro (by omega) (And.intro (by omega) (St.to_chk [(5, 8)] ?_))); rw [f1, f2]; simp [hw2, hs2, Rst.wr, Rst.wrV, -encB]; done) | trace_state
        · have he2' := eq_false he2
          obtain ⟨G1, G2⟩ := wrs_end m (Rst.rds n s6.few).few j2 he2
          simp [hk, he2', -encB]
          simp only [← G1, ← G2]
          repeat' (first | intro _ | with_reducible refine And.intro ?_ ?_ | exact chkI (by kernel_rfl) | exact backI (by kernel_rfl) | (refine callA (by first | rfl | (simp; done) | (simp; rfl)) (c_pfail ..) ?_ <;> try simp [-encB]) | (refine callB (by first | rfl | (simp; done) | (simp; rfl)) (c_pfail ..) ?_ <;> try simp [-encB]) | (refine callA (by first | rfl | (simp; done) | (simp; rfl)) (c_pone ..) ?_ <;> try simp [-encB]) | (refine callB (by first | rfl | (simp; done) | (simp; rfl)) (c_pone ..) ?_ <;> try simp [-encB]) | (refine callA (by first | rfl | (simp; done) | (simp; rfl)) (c_pnum ..) ?_ <;> try simp [-encB]) | (refine callB (by first | rfl | (simp; done) | (simp; rfl)) (c_pnum ..) ?_ <;> try simp [-encB]) | (refine callA (by first | rfl | (simp; done) | (simp; rfl)) (c_pfew ..) ?_ <;> try simp [-encB]) | (refine callB (by first | rfl | (simp; done) | (simp; rfl)) (c_pfew ..) ?_ <;> try simp [-encB]) | (refine callA (by first | rfl | (simp; done) | (simp; rfl)) (c_ptext ..) ?_ <;> try simp [-encB]) | (refine callB (by first | rfl | (simp; done) | (simp; rfl)) (c_ptext ..) ?_ <;> try simp [-encB]) | fail)
          all_goals first | omega | (rename_i ha; rw [truth_t ha]; done) | (rename_i ha; rw [truth_f ha]; done) | (unfold Rst.truthV; apply decide_eq_decide.2; omega) | trace_state
      · obtain rfl : k = m := by omega
        simp [-encB]
        repeat' (first | intro _ | with_reducible refine And.intro ?_ ?_ | exact chkI (by kernel_rfl) | exact backI (by kernel_rfl) | (refine callA (by first | rfl | (simp; done) | (simp; rfl)) (c_pfail ..) ?_ <;> try simp [-encB]) | (refine callB (by first | rfl | (simp; done) | (simp; rfl)) (c_pfail ..) ?_ <;> try simp [-encB]) | (refine callA (by first | rfl | (simp; done) | (simp; rfl)) (c_pone ..) ?_ <;> try simp [-encB]) | (refine callB (by first | rfl | (simp; done) | (simp; rfl)) (c_pone ..) ?_ <;> try simp [-encB]) | (refine callA (by first | rfl | (simp; done) | (simp; rfl)) (c_pnum ..) ?_ <;> try simp [-encB]) | (refine callB (by first | rfl | (simp; done) | (simp; rfl)) (c_pnum ..) ?_ <;> try simp [-encB]) | (refine callA (by first | rfl | (simp; done) | (simp; rfl)) (c_pfew ..) ?_ <;> try simp [-encB]) | (refine callB (by first | rfl | (simp; done) | (simp; rfl)) (c_pfew ..) ?_ <;> try simp [-encB]) | (refine callA (by first | rfl | (simp; done) | (simp; rfl)) (c_ptext ..) ?_ <;> try simp [-encB]) | (refine callB (by first | rfl | (simp; done) | (simp; rfl)) (c_ptext ..) ?_ <;> try simp [-encB]) | fail)
        all_goals first | omega | (rename_i ha; rw [truth_t ha]; done) | (rename_i ha; rw [truth_f ha]; done) | (unfold Rst.truthV; apply decide_eq_decide.2; omega) | trace_state
  · obtain rfl : i = n := by omega
    have hm' : (Rst.rds i s6.few).fewV = m := by rw [← q1]; exact hm
    simp [-encB]
    clear e1 e2 hlen
    repeat' (first | intro _ | with_reducible refine And.intro ?_ ?_ | exact chkI (by kernel_rfl) | exact backI (by kernel_rfl) | (refine callA (by first | rfl | (simp; done) | (simp; rfl)) (c_pfail ..) ?_ <;> try simp [hm', -encB]) | (refine callB (by first | rfl | (simp; done) | (simp; rfl)) (c_pfail ..) ?_ <;> try simp [hm', -encB]) | (refine callA (by first | rfl | (simp; done) | (simp; rfl)) (c_pone ..) ?_ <;> try simp [hm', -encB]) | (refine callB (by first | rfl | (simp; done) | (simp; rfl)) (c_pone ..) ?_ <;> try simp [hm', -encB]) | (refine callA (by first | rfl | (simp; done) | (simp; rfl)) (c_pnum ..) ?_ <;> try simp [hm', -encB]) | (refine callB (by first | rfl | (simp; done) | (simp; rfl)) (c_pnum ..) ?_ <;> try simp [hm', -encB]) | (refine callA (by first | rfl | (simp; done) | (simp; rfl)) (c_pfew ..) ?_ <;> try simp [hm', -encB]) | (refine callB (by first | rfl | (simp; done) | (simp; rfl)) (c_pfew ..) ?_ <;> try simp [hm', -encB]) | (refine callA (by first | rfl | (simp; done) | (simp; rfl)) (c_ptext ..) ?_ <;> try simp [hm', -encB]) | (refine callB (by first | rfl | (simp; done) | (simp; rfl)) (c_ptext ..) ?_ <;> try simp [hm', -encB]) | fail)
    refine aw_loopKM (α := {k : Nat // k ≤ m}) [1, 2, 3, 4, 5, 127, 128, 129, 130, 131, 132, 133, 134, 135, 136, 137, 138, 139, 140] (fun k => [(8, i64 k.1)]) (fun k => [(0, .box false 105 [.sl (encB (Rst.wrs k.1 (Rst.rds i s6.few).few).b), i64 (Rst.wrs k.1 (Rst.rds i s6.few).few).e]), (1, .box false 105 [.nl, i64 0]), (2, .box false 33 [i64 0, i64 0, i64 0, i64 0, i64 0, i64 0, .nl, .nl, .bool false]), (3, .box false 33 [i64 a1, i64 a2, i64 a3, i64 a4, i64 a5, i64 a6, .sl ((Rst.rdsR i s6.few).map Rd.cs), .rf 5, .bool false]), (5, .row false 76 2 ((Rst.wrsV k.1 (Rst.rds i s6.few).few).map Wr.cs))]) 6 (fun k => m - k.1) ⟨0, by simp⟩ (((St.to_fz 4).trans (St.to_tell 3 [i64 a1, i64 a2, i64 a3, i64 a4, i64 a5, i64 a6, .sl ((Rst.rdsR i s6.few).map Rd.cs), .nl, .bool false] (T := 33) (cs := [i64 a1, i64 a2, i64 a3, i64 a4, i64 a5, i64 a6, .rf 4, .nl, .bool false]) (by simp) (by simp))).trans ((St.to_ownB 3 7 76 2 (T' := 33) (cs := [i64 a1, i64 a2, i64 a3, i64 a4, i64 a5, i64 a6, .sl ((Rst.rdsR i s6.few).map Rd.cs), .nl, .bool false]) (by simp) rfl (by simp)).trans (St.to_chk [] (by simp [Rst.wrs, Rst.wrsV, -encB])))) ?_
    rintro ⟨k, j2⟩
    dsimp only
    have hlen2 := wrsV_len k (Rst.rds i s6.few).few
    obtain ⟨f1, f2⟩ := wrs_succ k (Rst.rds i s6.few).few
    by_cases hk : k < m
    · have hw2 := wrI hk (by omega)
      by_cases he2 : (Rst.wrs k (Rst.rds i s6.few).few).e = 0
      · rw [if_pos he2] at f1 f2
        have hs2 : (⟨(Rst.wrs k (Rst.rds i s6.few).few).b, 0⟩ : Rst) = Rst.wrs k (Rst.rds i s6.few).few := by rw [← he2]
        simp [hk, he2, -encB]
        repeat' (first | intro _ | with_reducible refine And.intro ?_ ?_ | exact chkI (by kernel_rfl) | exact backI (by kernel_rfl) | (refine callA (by first | rfl | (simp; done) | (simp; rfl)) (c_pfail ..) ?_ <;> try simp [hk, he2, -encB]) | (refine callB (by first | rfl | (simp; done) | (simp; rfl)) (c_pfail ..) ?_ <;> try simp [hk, he2, -encB]) | (refine callA (by first | rfl | (simp; done) | (simp; rfl)) (c_pone ..) ?_ <;> try simp [hk, he2, -encB]) | (refine callB (by first | rfl | (simp; done) | (simp; rfl)) (c_pone ..) ?_ <;> try simp [hk, he2, -encB]) | (refine callA (by first | rfl | (simp; done) | (simp; rfl)) (c_pnum ..) ?_ <;> try simp [hk, he2, -encB]) | (refine callB (by first | rfl | (simp; done) | (simp; rfl)) (c_pnum ..) ?_ <;> try simp [hk, he2, -encB]) | (refine callA (by first | rfl | (simp; done) | (simp; rfl)) (c_pfew ..) ?_ <;> try simp [hk, he2, -encB]) | (refine callB (by first | rfl | (simp; done) | (simp; rfl)) (c_pfew ..) ?_ <;> try simp [hk, he2, -encB]) | (refine callA (by first | rfl | (simp; done) | (simp; rfl)) (c_ptext ..) ?_ <;> try simp [hk, he2, -encB]) | (refine callB (by first | rfl | (simp; done) | (simp; rfl)) (c_ptext ..) ?_ <;> try simp [hk, he2, -encB]) | fail)
        all_goals first | omega | exact wrs_one (by assumption) | (refine Exists.intro (k + 1) (And.intro (by omega) (And.intro (by omega) (St.to_chk [(5, 8)] ?_))); rw [f1, f2]; simp [hw2, hs2, Rst.wr, Rst.wrV, -encB]; done) | trace_state
      · have he2' := eq_false he2
        obtain ⟨G1, G2⟩ := wrs_end m (Rst.rds i s6.few).few j2 he2
        simp [hk, he2', -encB]
        simp only [← G1, ← G2]
        repeat' (first | intro _ | with_reducible refine And.intro ?_ ?_ | exact chkI (by kernel_rfl) | exact backI (by kernel_rfl) | (refine callA (by first | rfl | (simp; done) | (simp; rfl)) (c_pfail ..) ?_ <;> try simp [-encB]) | (refine callB (by first | rfl | (simp; done) | (simp; rfl)) (c_pfail ..) ?_ <;> try simp [-encB]) | (refine callA (by first | rfl | (simp; done) | (simp; rfl)) (c_pone ..) ?_ <;> try simp [-encB]) | (refine callB (by first | rfl | (simp; done) | (simp; rfl)) (c_pone ..) ?_ <;> try simp [-encB]) | (refine callA (by first | rfl | (simp; done) | (simp; rfl)) (c_pnum ..) ?_ <;> try simp [-encB]) | (refine callB (by first | rfl | (simp; done) | (simp; rfl)) (c_pnum ..) ?_ <;> try simp [-encB]) | (refine callA (by first | rfl | (simp; done) | (simp; rfl)) (c_pfew ..) ?_ <;> try simp [-encB]) | (refine callB (by first | rfl | (simp; done) | (simp; rfl)) (c_pfew ..) ?_ <;> try simp [-encB]) | (refine callA (by first | rfl | (simp; done) | (simp; rfl)) (c_ptext ..) ?_ <;> try simp [-encB]) | (refine callB (by first | rfl | (simp; done) | (simp; rfl)) (c_ptext ..) ?_ <;> try simp [-encB]) | fail)
        all_goals first | omega | (rename_i ha; rw [truth_t ha]; done) | (rename_i ha; rw [truth_f ha]; done) | (unfold Rst.truthV; apply decide_eq_decide.2; omega) | trace_state
    · obtain rfl : k = m := by omega
      simp [-encB]
      repeat' (first | intro _ | with_reducible refine And.intro ?_ ?_ | exact chkI (by kernel_rfl) | exact backI (by kernel_rfl) | (refine callA (by first | rfl | (simp; done) | (simp; rfl)) (c_pfail ..) ?_ <;> try simp [-encB]) | (refine callB (by first | rfl | (simp; done) | (simp; rfl)) (c_pfail ..) ?_ <;> try simp [-encB]) | (refine callA (by first | rfl | (simp; done) | (simp; rfl)) (c_pone ..) ?_ <;> try simp [-encB]) | (refine callB (by first | rfl | (simp; done) | (simp; rfl)) (c_pone ..) ?_ <;> try simp [-encB]) | (refine callA (by first | rfl | (simp; done) | (simp; rfl)) (c_pnum ..) ?_ <;> try simp [-encB]) | (refine callB (by first | rfl | (simp; done) | (simp; rfl)) (c_pnum ..) ?_ <;> try simp [-encB]) | (refine callA (by first | rfl | (simp; done) | (simp; rfl)) (c_pfew ..) ?_ <;> try simp [-encB]) | (refine callB (by first | rfl | (simp; done) | (simp; rfl)) (c_pfew ..) ?_ <;> try simp [-encB]) | (refine callA (by first | rfl | (simp; done) | (simp; rfl)) (c_ptext ..) ?_ <;> try simp [-encB]) | (refine callB (by first | rfl | (simp; done) | (simp; rfl)) (c_ptext ..) ?_ <;> try simp [-encB]) | fail)
      all_goals first | omega | (rename_i ha; rw [truth_t ha]; done) | (rename_i ha; rw [truth_f ha]; done) | (unfold Rst.truthV; apply decide_eq_decide.2; omega) | trace_state
end Go.Proofs.Ytalkadbpdaoifaa.AX
