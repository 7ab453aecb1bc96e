/- A number that is read. -/
import Derived.Test.YtalkadbpdaoifaaWd1
namespace Go.Proofs.Ytalkadbpdaoifaa.AX
open Go Go.RowKit
set_option linter.unusedSimpArgs false
set_option linter.unusedVariables false
set_option maxRecDepth 100000
set_option maxHeartbeats 4000000
theorem or_add (n c k : Nat) (hn : n < 128 ^ k) (hk : k < 6) (hc : c < 256) : IntKind.i64.wrap ((n % 2 ^ IntKind.i64.bits ||| (IntKind.i64.wrap (IntKind.i64.wrap ((c : Int) % 128) * 2 ^ (min (7 * (k : Int)).toNat IntKind.i64.bits)) % 2 ^ IntKind.i64.bits).toNat : Nat) : Int) = ((n + c % 128 * 128 ^ k : Nat) : Int) := by
  have e1 : (7 * (k : Int)).toNat = 7 * k := by omega
  have e2 : min (7 * k) IntKind.i64.bits = 7 * k := by have : IntKind.i64.bits = 64 := rfl; omega
  have e3 : (128 : Nat) ^ k = 2 ^ (7 * k) := by rw [Nat.pow_mul]
  have e4 : (128 : Nat) ^ k ≤ 128 ^ 5 := Nat.pow_le_pow_right (by decide) (by omega)
  have e5 : (128 : Nat) ^ 5 = 34359738368 := by decide
  have e6 : c % 128 * 128 ^ k ≤ 127 * 128 ^ k := Nat.mul_le_mul_right _ (by omega)
  have e9 : (2 : Nat) ^ IntKind.i64.bits = 18446744073709551616 := by decide
  have e10 : (2 : Int) ^ IntKind.i64.bits = 18446744073709551616 := by decide
  have e7 : (((c % 128 : Nat) : Int) * 2 ^ (7 * k)) = ((c % 128 * 128 ^ k : Nat) : Int) := by rw [e3]; push_cast; rfl
  have w1 : IntKind.i64.wrap ((c % 128 : Nat) : Int) = ((c % 128 : Nat) : Int) := wr64 (by omega) (by omega)
  have w2 : IntKind.i64.wrap ((c % 128 * 128 ^ k : Nat) : Int) = ((c % 128 * 128 ^ k : Nat) : Int) := wr64 (by omega) (by omega)
  have hor : n ||| c % 128 * 128 ^ k = n + c % 128 * 128 ^ k := by
    have := Nat.two_pow_add_eq_or_of_lt (i := 7 * k) (b := n) (by rw [← e3]; exact hn) (c % 128)
    rw [e3, Nat.mul_comm (c % 128), Nat.or_comm, ← this]
    omega
  rw [e1, e2, show ((c : Int) % 128) = ((c % 128 : Nat) : Int) by omega, w1, e7, w2, e9, e10]
  generalize c % 128 * 128 ^ k = m at *
  rw [show (((m : Nat) : Int) % 18446744073709551616).toNat = m by omega, Nat.mod_eq_of_lt (by omega), hor]
  exact wr64 (by omega) (by omega)
def NumI (X : Rst × Nat) (x : Nat × Nat × Rst) : Prop := x.1 ≤ 6 ∧ x.2.1 < 128 ^ x.1 ∧ X = numGo (6 - x.1) x.1 x.2.1 x.2.2
theorem oneV_lt (s : Rst) : s.oneV.toNat < 256 := s.oneV.toNat_lt
theorem c_num (b : List UInt8) (e : Int) : Fn Try.prog 91 [.ptr 0 0] [(0, .box false 98 [.sl (encB b), i64 e])] 1 (i64 (Rst.numV ⟨b, e⟩)) [(0, .box false 98 [.sl (encB (Rst.num ⟨b, e⟩).b), i64 (Rst.num ⟨b, e⟩).e])] 1 := by
  unfold Rst.num Rst.numV
  generalize hX : numGo 6 0 0 ⟨b, e⟩ = X
  refine fn_of_aw dOk Try.func91 rfl rfl rfl rfl rfl (by simp) rfl (by simp) ?_
  simp [Try.f91, -encB]
  refine aw_loopKM (α := {x : Nat × Nat × Rst // NumI X x}) [0, 44] (fun x => [(6, i64 x.1.1), (3, i64 x.1.2.1)]) (fun x => [(0, rbx x.1.2.2)]) 1 (fun x => 6 - x.1.1) ⟨(0, 0, ⟨b, e⟩), by simp [NumI, hX]⟩ (St.to_chk [] (by simp [-encB])) ?_
  rintro ⟨⟨k, n, s⟩, j1, j2, j3⟩
  dsimp only at j1 j2 j3 ⊢
  by_cases hk : k < 6
  · obtain ⟨f, hf⟩ : ∃ f, 6 - k = f + 1 := ⟨5 - k, by omega⟩
    have hf2 : 6 - (k + 1) = f := by omega
    rw [hf, numGo] at j3
    have hw := wrI (i := k) (n := 6) hk (by omega)
    have hc := oneV_lt s
    have h7 : IntKind.i64.wrap (7 * (k : Int)) = 7 * (k : Int) := wr64 (by omega) (by omega)
    have hor := or_add n s.oneV.toNat k j2 hk hc
    have hcm : ((s.oneV.toNat : Int).tmod 128) = (s.oneV.toNat : Int) % 128 := Int.tmod_eq_emod_of_nonneg (by omega)
    have hk6 := eq_true (show (k : Int) < 6 by omega)
    simp [hk6, hw, h7, hcm, hor, -encB]
    repeat' (first | intro _ | with_reducible refine And.intro ?_ ?_ | exact chkI (by kernel_rfl) | exact backI (by kernel_rfl) | (refine callH (by first | ((refine ⟨?_, ?_, ?_, ?_⟩ <;> repeat' (first | exact rfl | exact Or.inl rfl | exact Or.inr rfl | exact trivial | with_reducible constructor | refine ⟨?_, ?_⟩ | (simp; done))); done) | fail) (c_fail ..) ?_ <;> try simp [hk6, hw, h7, hcm, hor, -encB]) | (refine callHD (by first | ((refine ⟨?_, ?_, ?_, ?_⟩ <;> repeat' (first | exact rfl | exact Or.inl rfl | exact Or.inr rfl | exact trivial | with_reducible constructor | refine ⟨?_, ?_⟩ | (simp; done))); done) | fail) (c_fail ..) rfl ?_ <;> try simp [hk6, hw, h7, hcm, hor, -encB]) | (refine callH (by first | ((refine ⟨?_, ?_, ?_, ?_⟩ <;> repeat' (first | exact rfl | exact Or.inl rfl | exact Or.inr rfl | exact trivial | with_reducible constructor | refine ⟨?_, ?_⟩ | (simp; done))); done) | fail) (c_one ..) ?_ <;> try simp [hk6, hw, h7, hcm, hor, -encB]) | (refine callHD (by first | ((refine ⟨?_, ?_, ?_, ?_⟩ <;> repeat' (first | exact rfl | exact Or.inl rfl | exact Or.inr rfl | exact trivial | with_reducible constructor | refine ⟨?_, ?_⟩ | (simp; done))); done) | fail) (c_one ..) rfl ?_ <;> try simp [hk6, hw, h7, hcm, hor, -encB]) | fail)
    · omega
    · rename_i h1
      rw [if_pos h1] at j3
      rw [j3]
      exact St.to_chk [] (by simp [-encB])
    · rename_i h1 h2
      rw [if_neg (by simp [h1]), if_pos (by omega)] at j3
      refine Exists.intro (k + 1) (And.intro (by omega) (Exists.intro (n + (s.oneV.toNat - 128) * 128 ^ k) (Exists.intro s.one (And.intro ⟨by omega, ?_, by rw [hf2]; exact j3⟩ (St.to_chk [] ?_)))))
      · have : (s.oneV.toNat - 128) * 128 ^ k ≤ 127 * 128 ^ k := Nat.mul_le_mul_right _ (by omega)
        have e : (128 : Nat) ^ (k + 1) = 128 * 128 ^ k := by rw [Nat.pow_succ, Nat.mul_comm]
        show n + (s.oneV.toNat - 128) * 128 ^ k < 128 ^ (k + 1)
        omega
      · have e : (s.oneV.toNat : Int) % 128 = ((s.oneV.toNat - 128 : Nat) : Int) := by omega
        simp [hor, e, -encB]
    all_goals
      have hm : (s.oneV.toNat : Int) % 128 = s.oneV.toNat := by omega
      have hz : ((n + s.oneV.toNat * 128 ^ k : Nat) : Int) = (n : Int) + (s.oneV.toNat : Int) % 128 * 128 ^ k := by rw [hm]; push_cast; rfl
      rw [if_neg (by simp [*]), if_neg (by omega)] at j3
      split at j3
      · first | (exfalso; omega) | (rw [j3]; refine St.to_chk [] ?_; simp [*, -encB]; done)
      · split at j3
        · first | (exfalso; omega) | (rw [j3]; refine St.to_chk [] ?_; simp [hm, -encB]; done)
        · first | (exfalso; omega) | (rw [j3]; refine St.to_chk [] ?_; simp [hm, -encB]; done)
  · obtain rfl : k = 6 := by omega
    rw [show 6 - 6 = 0 from rfl, numGo] at j3
    simp [-encB]
    repeat' (first | intro _ | with_reducible refine And.intro ?_ ?_ | exact chkI (by kernel_rfl) | exact backI (by kernel_rfl) | (refine callH (by first | ((refine ⟨?_, ?_, ?_, ?_⟩ <;> repeat' (first | exact rfl | exact Or.inl rfl | exact Or.inr rfl | exact trivial | with_reducible constructor | refine ⟨?_, ?_⟩ | (simp; done))); done) | fail) (c_fail ..) ?_ <;> try simp [-encB]) | (refine callHD (by first | ((refine ⟨?_, ?_, ?_, ?_⟩ <;> repeat' (first | exact rfl | exact Or.inl rfl | exact Or.inr rfl | exact trivial | with_reducible constructor | refine ⟨?_, ?_⟩ | (simp; done))); done) | fail) (c_fail ..) rfl ?_ <;> try simp [-encB]) | (refine callH (by first | ((refine ⟨?_, ?_, ?_, ?_⟩ <;> repeat' (first | exact rfl | exact Or.inl rfl | exact Or.inr rfl | exact trivial | with_reducible constructor | refine ⟨?_, ?_⟩ | (simp; done))); done) | fail) (c_one ..) ?_ <;> try simp [-encB]) | (refine callHD (by first | ((refine ⟨?_, ?_, ?_, ?_⟩ <;> repeat' (first | exact rfl | exact Or.inl rfl | exact Or.inr rfl | exact trivial | with_reducible constructor | refine ⟨?_, ?_⟩ | (simp; done))); done) | fail) (c_one ..) rfl ?_ <;> try simp [-encB]) | fail)
    all_goals (rw [j3]; exact St.to_chk [] (by simp [-encB]))
end Go.Proofs.Ytalkadbpdaoifaa.AX
