/- Texts and truths as bytes. -/
import Derived.Test.YtalkadbpdaoifaaWi9
namespace Go.Proofs.Ytalkadbpdaoifaa.AX
open Go Go.RowKit
set_option linter.unusedSimpArgs false
set_option linter.unusedVariables false
set_option maxRecDepth 100000
set_option maxHeartbeats 4000000
theorem num_len : ∀ (n : Nat), n ≤ 4611686018427387904 → (num n).length ≤ 9 := by
  have key : ∀ (k n : Nat), n < 128 ^ k → 0 < k → (num n).length ≤ k := by
    intro k
    induction k with
    | zero => intro n _ h; omega
    | succ k ih =>
      intro n hn _
      rw [num]
      split
      · simp
      · rename_i h
        by_cases hk : k = 0
        · subst hk; simp at hn; omega
        · have := ih (n / 128) (by rw [Nat.div_lt_iff_lt_mul (by omega)]; rw [Nat.pow_succ] at hn; exact hn) (by omega)
          simp; omega
  intro n h
  have e : (128 : Nat) ^ 9 = 9223372036854775808 := by decide
  exact key 9 n (by omega) (by omega)
theorem nums_len : ∀ (l : List Nat), (∀ n ∈ l, n ≤ 4611686018427387904) → (nums l).length ≤ 9 * l.length
  | [], _ => by simp [nums]
  | n :: r, h => by
    have := nums_len r (fun m hm => h m (by simp [hm]))
    have := num_len n (h n (by simp))
    simp only [nums, List.length_append, List.length_cons]
    omega
theorem c_numbersI (p : List UInt8) (l : List Int) (hl : ∀ a ∈ l, 0 ≤ a ∧ a ≤ 4611686018427387904) (hb : (p ++ nums (l.map Int.toNat)).length ≤ 1000000000) :
    Fn Try.prog 45 [.rf 0, .sl (l.map fun a => [i64 a])] [(0, .row false 5 1 (encB p))] 1 (.rf 1) [(1, .row false 5 1 (encB (p ++ nums (l.map Int.toNat)))), (0, .gone)] 2 := by
  have e : (l.map fun a => [i64 a]) = ints (l.map Int.toNat) := by
    unfold ints
    rw [List.map_map]
    apply List.map_congr_left
    intro a ha
    have := (hl a ha).1
    simp [Int.toNat_of_nonneg this]
  rw [e]
  exact c_numbers p _ hb (fun n hn => by
    obtain ⟨a, ha, rfl⟩ := List.mem_map.1 hn
    have := hl a ha
    omega)
theorem c_numbers1 (p : List UInt8) (a : Int) (ha : 0 ≤ a ∧ a ≤ 4611686018427387904 := by omega) (hp : p.length ≤ 900000000 := by first | omega | (simp only [List.length_append, List.length_cons, List.length_nil]; omega)) :
    Fn Try.prog 45 [.rf 0, .sl [[i64 a]]] [(0, .row false 5 1 (encB p))] 1 (.rf 1) [(1, .row false 5 1 (encB (p ++ nums [a.toNat]))), (0, .gone)] 2 := by
  have := c_numbersI p [a] (by simpa using ha) (by
    have := nums_len ([a].map Int.toNat) (by simp; omega)
    simp only [List.length_append]
    simp only [List.length_map, List.length_cons, List.length_nil] at this
    omega)
  simpa using this
theorem c_text (p : List UInt8) (s : ByteArray) (hp : p.length ≤ 900000000 := by first | omega | (simp only [List.length_append, List.length_cons, List.length_nil]; omega)) (hs : s.size ≤ 1000000 := by omega) :
    Fn Try.prog 80 [.rf 0, .str s] [(0, .row false 5 1 (encB p))] 1 (.rf 1) [(1, .row false 5 1 (encB (p ++ nums [s.size] ++ s.data.toList))), (0, .gone)] 2 := by
  have hn : s.size ≤ 4611686018427387904 := by omega
  have hnl := nums_len [s.size] (by simp; omega)
  simp only [List.length_cons, List.length_nil] at hnl
  have hl : ∀ x ∈ encB s.data.toList, x.length = 1 := by
    intro x hx
    obtain ⟨b, _, rfl⟩ := List.mem_map.1 hx
    rfl
  refine fn_of_aw dOk Try.func80 rfl rfl rfl rfl rfl (by simp) rfl (by simp) ?_
  simp [Try.f80, -encB]
  repeat' (first | intro _ | with_reducible refine And.intro ?_ ?_ | exact chkI (by kernel_rfl) | exact backI (by kernel_rfl) | (refine callH (by first | ((refine ⟨?_, ?_, ?_, ?_⟩ <;> repeat' (first | exact rfl | exact Or.inl rfl | exact Or.inr rfl | exact trivial | with_reducible constructor | refine ⟨?_, ?_⟩ | (simp; done))); done) | fail) (c_numbers1 ..) ?_ <;> try simp [-encB]) | (refine callHD (by first | ((refine ⟨?_, ?_, ?_, ?_⟩ <;> repeat' (first | exact rfl | exact Or.inl rfl | exact Or.inr rfl | exact trivial | with_reducible constructor | refine ⟨?_, ?_⟩ | (simp; done))); done) | fail) (c_numbers1 ..) rfl ?_ <;> try simp [-encB]) | (refine callH (by first | ((refine ⟨?_, ?_, ?_, ?_⟩ <;> repeat' (first | exact rfl | exact Or.inl rfl | exact Or.inr rfl | exact trivial | with_reducible constructor | refine ⟨?_, ?_⟩ | (simp; done))); done) | fail) (c_numbers ..) ?_ <;> try simp [-encB]) | (refine callHD (by first | ((refine ⟨?_, ?_, ?_, ?_⟩ <;> repeat' (first | exact rfl | exact Or.inl rfl | exact Or.inr rfl | exact trivial | with_reducible constructor | refine ⟨?_, ?_⟩ | (simp; done))); done) | fail) (c_numbers ..) rfl ?_ <;> try simp [-encB]) | fail)
  all_goals first | omega | (refine hl _ ?_; assumption) | (refine St.to_chk [(1, 3)] ?_; simp [encB]; done)
theorem c_truth (p : List UInt8) (b : Bool) (hs : p.length ≤ 900000000 := by first | omega | (simp only [List.length_append, List.length_cons, List.length_nil]; omega)) :
    Fn Try.prog 81 [.rf 0, .bool b] [(0, .row false 5 1 (encB p))] 1 (.rf 1) [(1, .row false 5 1 (encB (p ++ [if b then 1 else 0]))), (0, .gone)] 2 := by
  refine fn_of_aw dOk Try.func81 rfl rfl rfl rfl rfl (by simp) rfl (by simp) ?_
  simp [Try.f81, -encB]
  repeat' (first | intro _ | with_reducible refine And.intro ?_ ?_ | exact chkI (by kernel_rfl) | exact backI (by kernel_rfl) | fail)
  all_goals first | omega | (refine St.to_chk [(1, 2)] ?_; simp_all [encB]; done)
end Go.Proofs.Ytalkadbpdaoifaa.AX
