/- Numbers as bytes. -/
import Derived.Test.YtalkadbpdaoifaaWi8
namespace Go.Proofs.Ytalkadbpdaoifaa.AX
open Go Go.RowKit
set_option linter.unusedSimpArgs false
set_option linter.unusedVariables false
set_option maxRecDepth 100000
set_option maxHeartbeats 4000000
def num (n : Nat) : List UInt8 := if n < 128 then [UInt8.ofNat n] else UInt8.ofNat (n % 128 + 128) :: num (n / 128)
termination_by n
decreasing_by omega
def nums : List Nat → List UInt8
  | [] => []
  | n :: r => num n ++ nums r
def ints (l : List Nat) : List (List V) := l.map fun (n : Nat) => [i64 (n : Int)]
@[simp high] theorem ints_get (l : List Nat) (i : Nat) : (ints l)[i]? = (l[i]?).map fun (n : Nat) => [i64 (n : Int)] := by simp [ints]
@[simp] theorem ints_len (l : List Nat) : (ints l).length = l.length := by simp [ints]
theorem encB_snoc (p : List UInt8) (x : UInt8) : encB p ++ [[V.int .u8 (x.toNat : Int)]] = encB (p ++ [x]) := by simp [encB]
theorem nums_take {l : List Nat} {i n : Nat} (h : l[i]? = some n) : nums (l.take (i + 1)) = nums (l.take i) ++ num n := by
  have app : ∀ a b, nums (a ++ b) = nums a ++ nums b := by
    intro a
    induction a with
    | nil => intro b; rfl
    | cons x r ih => intro b; simp [nums, ih]
  rw [List.take_add_one, h, app]
  simp [nums]
theorem nums_le : ∀ (l : List Nat) (i : Nat), (nums (l.take i)).length ≤ (nums l).length
  | [], i => by simp
  | n :: r, 0 => by simp [nums]
  | n :: r, i + 1 => by
    have := nums_le r i
    simp only [List.take_succ_cons, nums, List.length_append]
    omega
theorem num_pos (n : Nat) : 1 ≤ (num n).length := by
  unfold num
  split <;> simp
theorem nums_long : ∀ (l : List Nat), l.length ≤ (nums l).length
  | [] => by simp
  | n :: r => by
    have := nums_long r
    have := num_pos n
    simp only [nums, List.length_append, List.length_cons]
    omega
theorem quo_at (k : Nat) (h : k ≤ 4611686018427387904) : IntKind.i64.wrap ((k : Int) / 128) = (k : Int) / 128 := wr64 (by omega) (by omega)
theorem c_numbers (p : List UInt8) (l : List Nat) (hb : (p ++ nums l).length ≤ 1000000000 := by omega) (hl : ∀ n ∈ l, n ≤ 4611686018427387904 := by assumption) :
    Fn Try.prog 45 [.rf 0, .sl (ints l)] [(0, .row false 5 1 (encB p))] 1 (.rf 1) [(1, .row false 5 1 (encB (p ++ nums l))), (0, .gone)] 2 := by
  refine fn_of_aw dOk Try.func45 rfl rfl rfl rfl rfl (by simp) rfl (by simp) ?_
  simp [Try.f45, -encB]
  refine aw_loopKM (α := {i : Nat // i ≤ l.length}) [4, 7, 8, 30] (fun i => [(9, i64 i.1), (0, .rf 1)]) (fun i => [(1, .row false 5 1 (encB (p ++ nums (l.take i.1)))), (0, .gone)]) 2 (fun i => l.length - i.1) ⟨0, by simp⟩ (St.to_chk [(1, 0)] (by simp [nums, -encB])) ?_
  rintro ⟨i, h1⟩
  dsimp only
  by_cases hi : i < l.length
  · obtain ⟨n, hn⟩ := getL_some hi
    have hnl := hl n (List.mem_of_getElem? hn)
    have hlong := nums_long l
    have hle := nums_le l (i + 1)
    have ht := nums_take hn
    rw [ht] at hle
    simp only [List.length_append] at hb hle
    have hw := wrI hi (by omega)
    simp [hn, -encB]
    refine ⟨fun _ => ?_, fun h => by omega⟩
    refine aw_loopKM (α := {s : List UInt8 × Nat // num n = s.1 ++ num s.2 ∧ s.2 ≤ n}) [4, 7, 8, 9, 10, 11, 12, 24, 25, 26, 27, 28, 29, 30] (fun s => [(6, i64 (s.1.2 : Int)), (0, .rf 2)]) (fun s => [(2, .row false 5 1 (encB (p ++ nums (l.take i) ++ s.1.1))), (0, .gone)]) 3 (fun s => s.1.2) ⟨([], n), by simp⟩ (St.to_chk [(2, 1)] (by simp [-encB])) ?_
    rintro ⟨⟨q, k⟩, k1, k2⟩
    dsimp only at k1 k2 ⊢
    have hp := num_pos k
    have hq := congrArg List.length k1
    simp only [List.length_append] at hq
    by_cases hk : 128 ≤ k
    · have hk' := eq_true (show (128 : Int) ≤ (k : Int) by omega)
      have e1 : num k = UInt8.ofNat (k % 128 + 128) :: num (k / 128) := by
        rw [num, if_neg (by omega)]
      have hq1 := quo_at k (by omega)
      simp [hk', -encB]
      refine ⟨⟨by omega, by omega⟩, ?_⟩
      refine Exists.intro (q ++ [UInt8.ofNat (k % 128 + 128)]) (Exists.intro (k / 128) (And.intro (by omega) (And.intro (And.intro (by rw [k1, e1]; simp) (by omega)) (St.to_chk [(2, 4)] ?_))))
      simp [hq1, encB]
      rw [Int.tmod_eq_emod_of_nonneg (by omega)]
    · have hk' := eq_false (show ¬ (128 : Int) ≤ (k : Int) by omega)
      have e1 : num k = [UInt8.ofNat k] := by rw [num, if_pos (by omega)]
      simp [hk', -encB]
      refine ⟨⟨by omega, by omega⟩, ?_⟩
      refine Exists.intro (i + 1) (And.intro (by omega) (And.intro (by omega) (St.to_chk [(1, 4)] ?_)))
      rw [ht, k1, e1]
      simp [hw, encB]
  · have e : l.take i = l := List.take_of_length_le (by omega)
    simp [hi, e, -encB]
    exact St.to_chk [] (by simp [-encB])
end Go.Proofs.Ytalkadbpdaoifaa.AX
