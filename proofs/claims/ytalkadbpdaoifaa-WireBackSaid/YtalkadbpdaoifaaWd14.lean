/- The document's decoding. -/
import Derived.Test.YtalkadbpdaoifaaWd13
import Derived.Test.YtalkadbpdaoifaaWd11
namespace Go.Proofs.Ytalkadbpdaoifaa.AX
open Go Go.RowKit
set_option linter.unusedSimpArgs false
set_option linter.unusedVariables false
set_option maxRecDepth 100000
set_option maxHeartbeats 4000000
/-- A reader that hands an error on, and all values behind one are told alike. -/
theorem num_bad {s : Rst} (h : s.e ≠ 0) : s.num = s ∧ s.numV = 0 := by
  have h1 : s.one = s := if_neg h
  have h2 : numGo 6 0 0 s = (s, 0) := by rw [numGo, h1, if_pos h]
  unfold Rst.num Rst.numV
  rw [h2]
  exact ⟨rfl, rfl⟩
theorem few_bad {s : Rst} (h : s.e ≠ 0) : s.few = s ∧ s.fewV = 0 := by
  obtain ⟨h1, h2⟩ := num_bad h
  have h3 : s.few = s := by unfold Rst.few; rw [h2, h1]; rfl
  refine ⟨h3, ?_⟩
  unfold Rst.fewV
  rw [h3, if_neg h]
theorem one_bad {s : Rst} (h : s.e ≠ 0) : s.one = s ∧ s.oneV = 0 := ⟨if_neg h, if_neg h⟩
theorem fail_bad {s : Rst} (h : s.e ≠ 0) (k : Int) : s.fail k = s := if_neg h
theorem text_bad {s : Rst} (h : s.e ≠ 0) : s.text = s := by
  obtain ⟨h1, h2⟩ := few_bad h
  unfold Rst.text
  rw [h1, h2]; rfl
theorem truth_bad {s : Rst} (h : s.e ≠ 0) : s.truth = s := by
  obtain ⟨h1, h2⟩ := one_bad h
  unfold Rst.truth
  rw [h1, h2]; rfl
theorem tag_bad {s : Rst} (h : s.e ≠ 0) (c : Nat) : s.tag c = s := by
  obtain ⟨h1, h2⟩ := one_bad h
  unfold Rst.tag
  rw [h1, h2]
  split
  · rfl
  · exact fail_bad h 4
theorem nums_bad : ∀ (n : Nat) {s : Rst}, s.e ≠ 0 → Rst.nums n s = s
  | 0, _, _ => rfl
  | n + 1, s, h => by
    rw [Rst.nums, (num_bad h).1]
    exact nums_bad n h
theorem rds_bad {s : Rst} (h : s.e ≠ 0) : s.rdsS = s := by
  obtain ⟨h1, h2⟩ := few_bad h
  unfold Rst.rdsS
  rw [h1, h2]; rfl
theorem wrs_bad {s : Rst} (h : s.e ≠ 0) : s.wrsS = s := by
  obtain ⟨h1, h2⟩ := few_bad h
  unfold Rst.wrsS
  rw [h1, h2]; rfl
theorem cmd_bad {s : Rst} (h : s.e ≠ 0) : s.cmd = s := by
  unfold Rst.cmd
  rw [nums_bad 6 h, rds_bad h, wrs_bad h, truth_bad h]
theorem recT_bad {s : Rst} (h : s.e ≠ 0) : s.recT = s := by
  unfold Rst.recT
  rw [nums_bad 15 h, truth_bad h, tag_bad h]
theorem rcd_bad {s : Rst} (h : s.e ≠ 0) : s.rcd = s := by
  unfold Rst.rcd
  rw [recT_bad h, cmd_bad h]
theorem msgT_bad {s : Rst} (h : s.e ≠ 0) : s.msgT = s := by
  unfold Rst.msgT
  rw [nums_bad 5 h, tag_bad h]
theorem msg_bad {s : Rst} (h : s.e ≠ 0) : s.msg = s := by
  unfold Rst.msg
  rw [msgT_bad h, rcd_bad h]
/-- An error stays. -/
theorem back {F : Rst → Rst} (hF : ∀ {s : Rst}, s.e ≠ 0 → F s = s) {s : Rst} (h : (F s).e = 0) : s.e = 0 := by
  by_cases hs : s.e = 0
  · exact hs
  · rw [hF hs] at h; exact h
theorem nums_back {s : Rst} : ∀ (n : Nat), (Rst.nums n s).e = 0 → s.e = 0 := fun n => back (fun h => nums_bad n h)
theorem nums_snoc : ∀ (n : Nat) (s : Rst), Rst.nums (n + 1) s = (Rst.nums n s).num
  | 0, s => rfl
  | n + 1, s => by
    rw [Rst.nums, nums_snoc n s.num]; rfl
theorem numsE_le {s : Rst} {i n : Nat} (h : (Rst.nums n s).e = 0) (hi : i ≤ n) : (Rst.nums i s).e = 0 := by
  induction n with
  | zero => obtain rfl : i = 0 := by omega
            exact h
  | succ n ih =>
    by_cases hj : i = n + 1
    · subst hj; exact h
    · rw [nums_snoc] at h
      exact ih (back (fun h => (num_bad h).1) h) (by omega)
theorem numR_eq {s : Rst} (h : s.num.e = 0) : s.numR = s.numV := if_pos h
theorem numsR {s : Rst} {n : Nat} (h : (Rst.nums n s).e = 0) : ∀ i, i < n → (Rst.nums i s).numR = (Rst.nums i s).numV := fun i hi => numR_eq (by rw [← nums_snoc]; exact numsE_le h hi)
theorem rd_bad {s : Rst} (h : s.e ≠ 0) : s.rd = s := by
  unfold Rst.rd
  rw [text_bad h, (num_bad h).1, (num_bad h).1]
theorem rdsR_eq : ∀ (n : Nat) {s : Rst}, (Rst.rds n s).e = 0 → Rst.rdsR n s = Rst.rdsV n s
  | 0, _, _ => rfl
  | n + 1, s, h => by
    unfold Rst.rds at h
    unfold Rst.rdsR Rst.rdsV
    split at h
    · rename_i hs
      rw [if_pos hs, if_pos hs, rdsR_eq n h]
      have h1 : s.rd.e = 0 := by
        by_cases hb : s.rd.e = 0
        · exact hb
        · rw [rds_stop n hb] at h; exact h
      have h2 : s.text.num.e = 0 := back (fun h => (num_bad h).1) (s := s.text.num) h1
      congr 1
      simp only [Rst.rdR, Rst.rdV, numR_eq h2, numR_eq (s := s.text.num) h1]
    · contradiction
theorem cmdR_eq {s : Rst} (h : s.cmd.e = 0) : s.cmdR = s.cmdV := by
  have h1 : (Rst.nums 6 s).rdsS.wrsS.e = 0 := back truth_bad h
  have h2 : (Rst.nums 6 s).rdsS.e = 0 := back wrs_bad h1
  have h3 : (Rst.nums 6 s).e = 0 := back rds_bad h2
  have q := numsR h3
  unfold Rst.cmdR Rst.cmdV
  rw [q 1 (by omega), q 2 (by omega), q 3 (by omega), q 4 (by omega), q 5 (by omega), show s.numR = s.numV from q 0 (by omega)]
  have : (Rst.nums 6 s).rdsRL = (Rst.nums 6 s).rdsL := rdsR_eq _ h2
  rw [this]
theorem recR_eq {s : Rst} (h : s.rcd.e = 0) : s.recR = s.recV := by
  have h1 : s.recT.e = 0 := back cmd_bad h
  have h2 : (Rst.nums 15 s).truth.e = 0 := back (fun h => tag_bad h 1) h1
  have h3 : (Rst.nums 15 s).e = 0 := back truth_bad h2
  have q := numsR h3
  unfold Rst.recR Rst.recV
  rw [q 1 (by omega), q 2 (by omega), q 3 (by omega), q 4 (by omega), q 5 (by omega), q 6 (by omega), q 7 (by omega), q 8 (by omega), q 9 (by omega), q 10 (by omega), q 11 (by omega), q 12 (by omega), q 13 (by omega), q 14 (by omega), show s.numR = s.numV from q 0 (by omega), cmdR_eq h]
theorem msgR_eq {s : Rst} (h : s.msg.e = 0) : s.msgR = s.msgV := by
  have h1 : s.msgT.e = 0 := back rcd_bad h
  have h2 : (Rst.nums 5 s).e = 0 := back (fun h => tag_bad h 2) h1
  have q := numsR h2
  unfold Rst.msgR Rst.msgV
  rw [q 1 (by omega), q 2 (by omega), q 3 (by omega), q 4 (by omega), show s.numR = s.numV from q 0 (by omega), recR_eq h]
theorem cmdR_small (s : Rst) : s.cmdR.Small := by
  have h1 := fewV_le (Rst.nums 6 s)
  have hv := cmdV_small s
  have hr : ∀ (n : Nat) (s : Rst), ∀ r ∈ Rst.rdsR n s, r.key.size ≤ 100 := by
    intro n
    induction n with
    | zero => intro s r hr; simp [Rst.rdsR] at hr
    | succ n ih =>
      intro s r hr
      unfold Rst.rdsR at hr
      split at hr
      · rcases List.mem_cons.1 hr with rfl | h
        · exact text_size s
        · exact ih _ _ h
      · simp at hr
  refine ⟨?_, hv.wl, hr _ _, hv.wk⟩
  have := rdsR_len (Rst.nums 6 s).fewV.toNat (Rst.nums 6 s).few
  show (Rst.rdsR _ _).length ≤ 100
  omega
end Go.Proofs.Ytalkadbpdaoifaa.AX
